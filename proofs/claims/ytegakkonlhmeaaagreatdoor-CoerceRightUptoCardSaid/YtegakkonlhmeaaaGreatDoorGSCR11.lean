/-
  Contracts and plain facts for a law, joined.
-/
import Derived.Test.YtegakkonlhmeaaaGreatDoorGSCR10
set_option maxRecDepth 100000
set_option maxHeartbeats 16000000
set_option linter.unusedVariables false
set_option linter.unusedSimpArgs false
set_option linter.unusedSectionVars false
namespace Go.Proofs.YtegakkonlhmeaaaGreatDoor
open Go Go.Av
attribute [local irreducible] HCode AOps PFn AFn Av.Step TStep
theorem weak_full {xs : List AV} {t : Tk} : WeakL [.slice xs t] [.slice xs .no] := WeakL.cons (Weak.no (WeakL.refl _)) (WeakL.refl _)
def wArg (fixed : Bool) (W : WS) (m : Mem) : WS := wVal m.v fixed (wMark [58] (wName m.name W))
def wArgs (fixed : Bool) (l : List Mem) (W : WS) : WS := if l = [] then W else wMark [41] (l.foldl (wArg fixed) (wMark [40] W))
def wDir (fixed : Bool) (W : WS) (d : Dirc) : WS := wArgs fixed d.args (wName d.name (wMark [64] W))
def wDirs (fixed : Bool) (l : List Dirc) (W : WS) : WS := l.foldl (wDir fixed) W
theorem len_arg (f : Bool) (W : WS) (m : Mem) : (wArg f W m).l.length ≤ W.l.length + 4 * m.size := by
  have h := len_val m.v f (wMark [58] (wName m.name W))
  rw [len_mark, len_name] at h
  have e : m.size = m.name.length + 2 + m.v.size := by cases m; rfl
  unfold wArg; omega
theorem len_argsF (f : Bool) (l : List Mem) (W : WS) : (l.foldl (wArg f) W).l.length ≤ W.l.length + 4 * sumSize Mem.size l := by
  have := fold_len (wArg f) (fun m => 4 * m.size) (len_arg f) l W
  rwa [sum_mul] at this
theorem len_args (f : Bool) (l : List Mem) (W : WS) : (wArgs f l W).l.length ≤ W.l.length + 4 * sumSize Mem.size l + 2 := by
  have h := len_argsF f l (wMark [40] W)
  rw [len_mark] at h
  unfold wArgs
  split
  · omega
  · rw [len_mark]; omega
theorem len_dir (f : Bool) (W : WS) (d : Dirc) : (wDir f W d).l.length ≤ W.l.length + 4 * d.size := by
  have h := len_args f d.args (wName d.name (wMark [64] W))
  rw [len_name, len_mark] at h
  unfold wDir Dirc.size; omega
theorem len_dirs (f : Bool) (l : List Dirc) (W : WS) : (wDirs f l W).l.length ≤ W.l.length + 4 * sumSize Dirc.size l := by
  have := fold_len (wDir f) (fun m => 4 * m.size) (len_dir f) l W
  rwa [sum_mul] at this
theorem ok_args (l : List Mem) (W : WS) : (wArgs true l W).ok = (W.ok && argsOk l) := by
  have h : ∀ (W : WS) (x : Mem), (wArg true W x).ok = (W.ok && (nameB x.name && valFix x.v)) := fun W x => by
    show ((W.ok && nameB x.name) && (plainV x.v && !(true && decide (varsV x.v [] ≠ [])))) = _
    unfold valFix
    rw [show (!(true && decide (varsV x.v [] ≠ []))) = decide (varsV x.v [] = []) by simp, Bool.and_assoc]
  unfold wArgs argsOk
  split
  next e => subst e; simp
  · show (l.foldl (wArg true) (wMark [40] W)).ok = _
    rw [fold_ok _ _ h]
    rfl
theorem ok_dirs (l : List Dirc) (W : WS) : (wDirs true l W).ok = (W.ok && l.all dirOk) :=
  fold_ok _ _ (fun W d => by
    show (wArgs true d.args (wName d.name (wMark [64] W))).ok = _
    rw [ok_args]
    show ((W.ok && nameB d.name) && argsOk d.args) = _
    unfold dirOk
    rw [Bool.and_assoc]) l W
theorem cArgs (W : WS) (fixed : Bool) (l : List Mem) (hl : sumSize Mem.size l ≤ 1048640) (ho : ∀ m ∈ l, m.ok) (hW : W.l.length + 4 * sumSize Mem.size l + 4 ≤ 1099511627776) : WC 278 (.ptr 0 0) [.bool fixed, .slice (l.map Mem.enc) .no] W (wArgs fixed l W) := by
  refine AFn.enter [] Tryz.func278 rfl rfl rfl rfl rfl (by decide) ?_
  have hll : (l.map Mem.enc).length = l.length := List.length_map ..
  have hL := sumSize_length (size := Mem.size) Mem.size_pos l
  unfold wArgs
  by_cases e : l = []
  · subst e
    rw [if_pos rfl]
    repeat' first | refine .seq ?_ | refine .rg ?_ | refine .rd ?_ | refine .block ?_ | refine .scope ?_ | refine .skip ?_ | refine .label ?_ | refine .exit ?_ | refine .ret ?_ | refine .ct ?_ | refine .cf ?_ | refine .cy ?_ | refine .cn ?_ | (refine .cond rfl ?_ ?_ <;> intro hc) | refine A.nil_seq ?_ | refine .nl ?_ | refine .dd ?_ | refine .ys ?_ | refine .no ?_ | (refine A.guard rfl ?_ ?_ <;> intro hc) | refine .lb ?_ | refine .ln ?_ | refine .ls ?_ | refine .pv ?_ | refine .ix ?_ | refine .pt ?_ | refine .pf ?_ | refine .bx ?_ | refine .al ?_ | refine .st ?_ | refine .ad ?_ | refine .sb ?_ | refine .mf ?_ | refine .cl ?_ | refine .cw ?_ | refine .ck ?_ | fail
    exact ⟨rfl, rfl⟩
  · rw [if_neg e]
    have e0 : ((l.length : Int) == 0) = false := by
      rw [beq_eq_false_iff_ne]
      intro h
      exact e (List.length_eq_zero_iff.1 (by omega))
    have e1 : (((l.map Mem.enc).length : Int) == 0) = false := by rw [hll]; exact e0
    have c1 := cMark W [40] (by omega)
    repeat' first | refine .seq ?_ | refine .rg ?_ | refine .rd ?_ | refine .block ?_ | refine .scope ?_ | refine .skip ?_ | refine .label ?_ | refine .exit ?_ | refine .ret ?_ | refine .ct ?_ | refine .cf ?_ | refine .cy ?_ | refine .cn ?_ | (refine .cond rfl ?_ ?_ <;> intro hc) | refine A.nil_seq ?_ | refine .nl ?_ | refine .dd ?_ | refine .ys ?_ | refine .no ?_ | (refine A.guard rfl ?_ ?_ <;> intro hc) | refine .lb ?_ | refine .ln ?_ | refine .ls ?_ | refine .pv ?_ | refine .ix ?_ | refine .pt ?_ | refine .pf ?_ | refine .bx ?_ | refine .al ?_ | refine .st ?_ | refine .ad ?_ | refine .sb ?_ | refine .mf ?_ | refine .cl ?_ | refine .cw ?_ | refine .ck ?_ | refine A.callWC c1 rfl rfl rfl rfl weak_full ?_ | fail
    refine HCode.forK l.length (fun k => [(16, .int .i64 k), (15, .int .i64 l.length), (14, .slice (l.map Mem.enc) .no), (1, .bool fixed), (0, .ptr 0 0)]) (fun k => wst ((l.take k).foldl (wArg fixed) (wMark [40] W))) (fun _ => True) ⟨rfl, by rw [← hll]; rfl, rfl, rfl, rfl, trivial⟩ rfl trivial fun k hk _ => ?_
    have hlen := len_argsF fixed (l.take k) (wMark [40] W)
    rw [len_mark] at hlen
    by_cases h1 : k < l.length
    · have d1 : decide ((k : Int) < (l.length : Int)) = true := by simp [h1]
      have x1 := map_get' (f := Mem.enc) h1
      have hst := wsum_le Mem.size l k h1
      have hme : l[k].size = l[k].name.length + 2 + l[k].v.size := by cases l[k]; rfl
      have hmo : l[k].v.ok := ho l[k] (List.getElem_mem h1)
      have hn := fold_take' (wArg fixed) h1 (wMark [40] W)
      generalize hWk : (l.take k).foldl (wArg fixed) (wMark [40] W) = Wk at *
      have c2 := cName Wk l[k].name (by omega) (by omega)
      have c3 := cMark (wName l[k].name Wk) [58] (by rw [len_name]; omega)
      have c4 := cValue (wMark [58] (wName l[k].name Wk)) l[k].v fixed (by omega) hmo (by rw [len_mark, len_name]; omega)
      repeat' first | refine .seq ?_ | refine .rg ?_ | refine .rd ?_ | refine .block ?_ | refine .scope ?_ | refine .skip ?_ | refine .label ?_ | refine .exit ?_ | refine .ret ?_ | refine .ct ?_ | refine .cf ?_ | refine .cy ?_ | refine .cn ?_ | (refine .cond rfl ?_ ?_ <;> intro hc) | refine A.nil_seq ?_ | refine .nl ?_ | refine .dd ?_ | refine .ys ?_ | refine .no ?_ | (refine A.guard rfl ?_ ?_ <;> intro hc) | refine .lb ?_ | refine .ln ?_ | refine .ls ?_ | refine .pv ?_ | refine .ix ?_ | refine .pt ?_ | refine .pf ?_ | refine .bx ?_ | refine .al ?_ | refine .st ?_ | refine .ad ?_ | refine .sb ?_ | refine .mf ?_ | refine .cl ?_ | refine .cw ?_ | refine .ck ?_ | refine A.callWC c2 rfl rfl rfl rfl (WeakL.refl _) ?_ | refine A.callWC c3 rfl rfl rfl rfl weak_full ?_ | refine A.callWC c4 rfl rfl rfl (by simp [AV.closedL, AV.closed, Val.closed]) (WeakL.refl _) ?_ | fail
      exact ⟨h1, ⟨rfl, rfl, rfl, rfl, rfl, trivial⟩, by simp [belowS, AV.low], wst_below _, (congrArg wst hn).symm, trivial⟩
    · have d1 : decide ((k : Int) < (l.length : Int)) = false := by simp; omega
      obtain rfl : k = l.length := by omega
      rw [List.take_length] at *
      have c2 := cMark (l.foldl (wArg fixed) (wMark [40] W)) [41] (by omega)
      repeat' first | refine .seq ?_ | refine .rg ?_ | refine .rd ?_ | refine .block ?_ | refine .scope ?_ | refine .skip ?_ | refine .label ?_ | refine .exit ?_ | refine .ret ?_ | refine .ct ?_ | refine .cf ?_ | refine .cy ?_ | refine .cn ?_ | (refine .cond rfl ?_ ?_ <;> intro hc) | refine A.nil_seq ?_ | refine .nl ?_ | refine .dd ?_ | refine .ys ?_ | refine .no ?_ | (refine A.guard rfl ?_ ?_ <;> intro hc) | refine .lb ?_ | refine .ln ?_ | refine .ls ?_ | refine .pv ?_ | refine .ix ?_ | refine .pt ?_ | refine .pf ?_ | refine .bx ?_ | refine .al ?_ | refine .st ?_ | refine .ad ?_ | refine .sb ?_ | refine .mf ?_ | refine .cl ?_ | refine .cw ?_ | refine .ck ?_ | refine A.callWC c2 rfl rfl rfl rfl weak_full ?_ | fail
      exact ⟨rfl, rfl⟩
theorem cDirs (W : WS) (fixed : Bool) (l : List Dirc) (hl : sumSize Dirc.size l ≤ 1048640) (ho : ∀ d ∈ l, d.ok) (hW : W.l.length + 4 * sumSize Dirc.size l + 4 ≤ 1099511627776) : WC 264 (.ptr 0 0) [.bool fixed, .slice (l.map Dirc.enc) .no] W (wDirs fixed l W) := by
  refine AFn.enter [] Tryz.func264 rfl rfl rfl rfl rfl (by decide) ?_
  have hll : (l.map Dirc.enc).length = l.length := List.length_map ..
  have hL := sumSize_length (size := Dirc.size) (fun d => by unfold Dirc.size; omega) l
  unfold wDirs
  repeat' first | refine .seq ?_ | refine .rg ?_ | refine .rd ?_ | refine .block ?_ | refine .scope ?_ | refine .skip ?_ | refine .label ?_ | refine .exit ?_ | refine .ret ?_ | refine .ct ?_ | refine .cf ?_ | refine .cy ?_ | refine .cn ?_ | (refine .cond rfl ?_ ?_ <;> intro hc) | refine A.nil_seq ?_ | refine .nl ?_ | refine .dd ?_ | refine .ys ?_ | refine .no ?_ | (refine A.guard rfl ?_ ?_ <;> intro hc) | refine .lb ?_ | refine .ln ?_ | refine .ls ?_ | refine .pv ?_ | refine .ix ?_ | refine .pt ?_ | refine .pf ?_ | refine .bx ?_ | refine .al ?_ | refine .st ?_ | refine .ad ?_ | refine .sb ?_ | refine .mf ?_ | refine .cl ?_ | refine .cw ?_ | refine .ck ?_ | fail
  refine HCode.forK l.length (fun k => [(10, .int .i64 k), (9, .int .i64 l.length), (8, .slice (l.map Dirc.enc) .no), (1, .bool fixed), (0, .ptr 0 0)]) (fun k => wst ((l.take k).foldl (wDir fixed) W)) (fun _ => True) ⟨rfl, by rw [← hll]; rfl, rfl, rfl, rfl, trivial⟩ rfl trivial fun k hk _ => ?_
  have hlen := len_dirs fixed (l.take k) W
  unfold wDirs at hlen
  by_cases h1 : k < l.length
  · have d1 : decide ((k : Int) < (l.length : Int)) = true := by simp [h1]
    have x1 := map_get' (f := Dirc.enc) h1
    have hst := wsum_le Dirc.size l k h1
    have hde : l[k].size = l[k].name.length + sumSize Mem.size l[k].args + 3 := rfl
    have hdo : ∀ m ∈ l[k].args, m.ok := ho l[k] (List.getElem_mem h1)
    have hn := fold_take' (wDir fixed) h1 W
    generalize hWk : (l.take k).foldl (wDir fixed) W = Wk at *
    have c2 := cMark Wk [64] (by omega)
    have c3 := cName (wMark [64] Wk) l[k].name (by omega) (by rw [len_mark]; omega)
    have c4 := cArgs (wName l[k].name (wMark [64] Wk)) fixed l[k].args (by omega) hdo (by rw [len_name, len_mark]; omega)
    repeat' first | refine .seq ?_ | refine .rg ?_ | refine .rd ?_ | refine .block ?_ | refine .scope ?_ | refine .skip ?_ | refine .label ?_ | refine .exit ?_ | refine .ret ?_ | refine .ct ?_ | refine .cf ?_ | refine .cy ?_ | refine .cn ?_ | (refine .cond rfl ?_ ?_ <;> intro hc) | refine A.nil_seq ?_ | refine .nl ?_ | refine .dd ?_ | refine .ys ?_ | refine .no ?_ | (refine A.guard rfl ?_ ?_ <;> intro hc) | refine .lb ?_ | refine .ln ?_ | refine .ls ?_ | refine .pv ?_ | refine .ix ?_ | refine .pt ?_ | refine .pf ?_ | refine .bx ?_ | refine .al ?_ | refine .st ?_ | refine .ad ?_ | refine .sb ?_ | refine .mf ?_ | refine .cl ?_ | refine .cw ?_ | refine .ck ?_ | refine A.callWC c2 rfl rfl rfl rfl weak_full ?_ | refine A.callWC c3 rfl rfl rfl rfl (WeakL.refl _) ?_ | refine A.callWC c4 rfl rfl rfl (by simp [AV.closedL, AV.closed, Mem.closedL]) (WeakL.refl _) ?_ | fail
    exact ⟨h1, ⟨rfl, rfl, rfl, rfl, rfl, trivial⟩, by simp [belowS, AV.low], wst_below _, (congrArg wst hn).symm, trivial⟩
  · have d1 : decide ((k : Int) < (l.length : Int)) = false := by simp; omega
    obtain rfl : k = l.length := by omega
    rw [List.take_length] at *
    repeat' first | refine .seq ?_ | refine .rg ?_ | refine .rd ?_ | refine .block ?_ | refine .scope ?_ | refine .skip ?_ | refine .label ?_ | refine .exit ?_ | refine .ret ?_ | refine .ct ?_ | refine .cf ?_ | refine .cy ?_ | refine .cn ?_ | (refine .cond rfl ?_ ?_ <;> intro hc) | refine A.nil_seq ?_ | refine .nl ?_ | refine .dd ?_ | refine .ys ?_ | refine .no ?_ | (refine A.guard rfl ?_ ?_ <;> intro hc) | refine .lb ?_ | refine .ln ?_ | refine .ls ?_ | refine .pv ?_ | refine .ix ?_ | refine .pt ?_ | refine .pf ?_ | refine .bx ?_ | refine .al ?_ | refine .st ?_ | refine .ad ?_ | refine .sb ?_ | refine .mf ?_ | refine .cl ?_ | refine .cw ?_ | refine .ck ?_ | fail
    exact ⟨rfl, rfl⟩
abbrev wst2 (W : WS) : St := ⟨[.cells W.cs, .cells [.ptr 0 0]], [.len W.l.length]⟩
theorem wst_below2 (W : WS) : (belowB 2 1 [.cells W.cs, .cells [.ptr 0 0]] && belowT 2 1 [.len W.l.length]) = true := by
  have : AV.lowL 2 1 W.cs = true := by simp [WS.cs, AV.lowL, AV.low]
  simp [belowB, Ob.low, this, belowT, Tok.low, AV.lowL, AV.low]
def wPar (W : WS) (p : Par) : WS := wDflt p.has p.d (wType p.t (wMark [58] (wName p.name W)))
def wPars (l : List Par) (W : WS) : WS := l.foldl wPar W
theorem len_par (W : WS) (p : Par) : (wPar W p).l.length ≤ W.l.length + 4 * p.size := by
  have h1 := len_dflt p.has p.d (wType p.t (wMark [58] (wName p.name W)))
  have h2 := len_type p.t (wMark [58] (wName p.name W))
  rw [len_mark, len_name] at h2
  unfold wPar Par.size Typ.size; omega
theorem len_pars (l : List Par) (W : WS) : (wPars l W).l.length ≤ W.l.length + 4 * sumSize Par.size l := by
  have := fold_len wPar (fun m => 4 * m.size) len_par l W
  rwa [sum_mul] at this
theorem ok_pars (l : List Par) (W : WS) : (wPars l W).ok = (W.ok && l.all parOk) :=
  fold_ok _ _ (fun W p => by
    show (wDflt p.has p.d (wType p.t (wMark [58] (wName p.name W)))).ok = _
    rw [ok_dflt, ok_type]
    show (((W.ok && nameB p.name) && rightT p.t) && dfltOk p) = _
    unfold parOk
    rw [Bool.and_assoc, Bool.and_assoc]) l W
theorem cPars (W : WS) (l : List Par) (hl : sumSize Par.size l ≤ 1048640) (ho : ∀ p ∈ l, p.ok) (hW : W.l.length + 4 * sumSize Par.size l + 4 ≤ 1099511627776) : WC 232 (.agg [.ptr 0 0]) [.slice (l.map Par.enc) .no] W (wPars l W) := by
  refine WC.of (AFn.enter [] Tryz.func232 rfl rfl rfl rfl rfl (by decide) ?_)
  have hll : (l.map Par.enc).length = l.length := List.length_map ..
  have hL := sumSize_length (size := Par.size) (fun d => by unfold Par.size; omega) l
  unfold wPars
  repeat' first | refine .seq ?_ | refine .rg ?_ | refine .rd ?_ | refine .block ?_ | refine .scope ?_ | refine .skip ?_ | refine .label ?_ | refine .exit ?_ | refine .ret ?_ | refine .ct ?_ | refine .cf ?_ | refine .cy ?_ | refine .cn ?_ | (refine .cond rfl ?_ ?_ <;> intro hc) | refine A.nil_seq ?_ | refine .nl ?_ | refine .dd ?_ | refine .ys ?_ | refine .no ?_ | (refine A.guard rfl ?_ ?_ <;> intro hc) | refine .lb ?_ | refine .ln ?_ | refine .ls ?_ | refine .pv ?_ | refine .ix ?_ | refine .pt ?_ | refine .pf ?_ | refine .bx ?_ | refine .al ?_ | refine .st ?_ | refine .ad ?_ | refine .sb ?_ | refine .mf ?_ | refine .cl ?_ | refine .cw ?_ | refine .ck ?_ | fail
  refine HCode.forK l.length (fun k => [(8, .int .i64 k), (7, .int .i64 l.length), (6, .slice (l.map Par.enc) .no), (2, .ptr 1 0)]) (fun k => wst2 ((l.take k).foldl wPar W)) (fun _ => True) ⟨rfl, by rw [← hll]; rfl, rfl, rfl, trivial⟩ rfl trivial fun k hk _ => ?_
  have hlen := len_pars (l.take k) W
  unfold wPars at hlen
  by_cases h1 : k < l.length
  · have d1 : decide ((k : Int) < (l.length : Int)) = true := by simp [h1]
    have x1 := map_get' (f := Par.enc) h1
    have hst := wsum_le Par.size l k h1
    have hpe : l[k].size = l[k].name.length + l[k].t.size + l[k].d.size + 3 := rfl
    have hte : l[k].t.size = l[k].t.name.length + 4 := rfl
    have hpo : l[k].d.ok := ho l[k] (List.getElem_mem h1)
    have hn := fold_take' wPar h1 W
    generalize hWk : (l.take k).foldl wPar W = Wk at *
    have c2 := cName Wk l[k].name (by omega) (by omega)
    have c3 := cMark (wName l[k].name Wk) [58] (by rw [len_name]; omega)
    have c4 := cType (wMark [58] (wName l[k].name Wk)) l[k].t (by omega) (by rw [len_mark, len_name]; omega)
    have l4 := len_type l[k].t (wMark [58] (wName l[k].name Wk))
    rw [len_mark, len_name] at l4
    have c5 := cDflt (wType l[k].t (wMark [58] (wName l[k].name Wk))) l[k].has l[k].d (by omega) hpo (by omega)
    repeat' first | refine .seq ?_ | refine .rg ?_ | refine .rd ?_ | refine .block ?_ | refine .scope ?_ | refine .skip ?_ | refine .label ?_ | refine .exit ?_ | refine .ret ?_ | refine .ct ?_ | refine .cf ?_ | refine .cy ?_ | refine .cn ?_ | (refine .cond rfl ?_ ?_ <;> intro hc) | refine A.nil_seq ?_ | refine .nl ?_ | refine .dd ?_ | refine .ys ?_ | refine .no ?_ | (refine A.guard rfl ?_ ?_ <;> intro hc) | refine .lb ?_ | refine .ln ?_ | refine .ls ?_ | refine .pv ?_ | refine .ix ?_ | refine .pt ?_ | refine .pf ?_ | refine .bx ?_ | refine .al ?_ | refine .st ?_ | refine .ad ?_ | refine .sb ?_ | refine .mf ?_ | refine .cl ?_ | refine .cw ?_ | refine .ck ?_ | refine A.callWC c2 rfl rfl rfl rfl (WeakL.refl _) ?_ | refine A.callWC c3 rfl rfl rfl rfl weak_full ?_ | refine A.callWC c4 rfl rfl rfl rfl (WeakL.refl _) ?_ | refine A.callWC c5 rfl rfl rfl (by simp [AV.closedL, AV.closed, Val.closed]) (WeakL.refl _) ?_ | fail
    exact ⟨h1, ⟨rfl, rfl, rfl, rfl, trivial⟩, by simp [belowS, AV.low], wst_below2 _, (congrArg wst2 hn).symm, trivial⟩
  · have d1 : decide ((k : Int) < (l.length : Int)) = false := by simp; omega
    obtain rfl : k = l.length := by omega
    rw [List.take_length] at *
    repeat' first | refine .seq ?_ | refine .rg ?_ | refine .rd ?_ | refine .block ?_ | refine .scope ?_ | refine .skip ?_ | refine .label ?_ | refine .exit ?_ | refine .ret ?_ | refine .ct ?_ | refine .cf ?_ | refine .cy ?_ | refine .cn ?_ | (refine .cond rfl ?_ ?_ <;> intro hc) | refine A.nil_seq ?_ | refine .nl ?_ | refine .dd ?_ | refine .ys ?_ | refine .no ?_ | (refine A.guard rfl ?_ ?_ <;> intro hc) | refine .lb ?_ | refine .ln ?_ | refine .ls ?_ | refine .pv ?_ | refine .ix ?_ | refine .pt ?_ | refine .pf ?_ | refine .bx ?_ | refine .al ?_ | refine .st ?_ | refine .ad ?_ | refine .sb ?_ | refine .mf ?_ | refine .cl ?_ | refine .cw ?_ | refine .ck ?_ | fail
    exact ⟨rfl, rfl, rfl⟩
def wNmK (mark : Str) (l : List Str) : Nat → WS → WS
  | 0, W => W
  | k + 1, W => wName (l.getD k []) (if k = 0 then wNmK mark l k W else wMark mark (wNmK mark l k W))
def wNames (mark : Str) (l : List Str) (W : WS) : WS := wNmK mark l l.length W
theorem len_nmK (mark : Str) (l : List Str) : ∀ (k : Nat) (W : WS), (wNmK mark l k W).l.length ≤ W.l.length + 2 * k
  | 0, W => by rw [wNmK]; omega
  | k + 1, W => by
    have := len_nmK mark l k W
    rw [wNmK, len_name]
    split
    · omega
    · rw [len_mark]; omega
theorem ok_nmK (mark : Str) (l : List Str) : ∀ (k : Nat) (W : WS), k ≤ l.length → (wNmK mark l k W).ok = (W.ok && (l.take k).all nameB)
  | 0, W, _ => by rw [wNmK]; simp
  | k + 1, W, h => by
    have h1 := ok_nmK mark l k W (by omega)
    have hk : k < l.length := by omega
    rw [List.take_succ_eq_append_getElem hk, List.all_append, ← Bool.and_assoc, ← h1, wNmK]
    have e : l.getD k [] = l[k] := by simp [hk]
    rw [e]
    show ((if k = 0 then wNmK mark l k W else wMark mark (wNmK mark l k W)).ok && nameB l[k]) = _
    simp only [List.all_cons, List.all_nil, Bool.and_true]
    split <;> rfl
theorem ok_names (mark : Str) (l : List Str) (W : WS) : (wNames mark l W).ok = (W.ok && l.all nameB) := by
  unfold wNames
  rw [ok_nmK mark l _ W (Nat.le_refl _), List.take_length]
theorem len_names (mark : Str) (l : List Str) (W : WS) : (wNames mark l W).l.length ≤ W.l.length + 4 * strsSize l := by
  have h1 := len_nmK mark l l.length W
  have h2 := sumSize_length (size := fun s : Str => s.length + 1) (fun _ => by omega) l
  unfold wNames strsSize; omega
theorem cNames (W : WS) (mark : Str) (l : List Str) (hl : strsSize l ≤ 1048640) (hW : W.l.length + 4 * strsSize l + 4 ≤ 1099511627776) : WC 246 (.agg [.ptr 0 0]) [.str mark, .slice (l.map AV.str) .no] W (wNames mark l W) := by
  refine WC.of (AFn.enter [] Tryz.func246 rfl rfl rfl rfl rfl (by decide) ?_)
  have hll : (l.map AV.str).length = l.length := List.length_map ..
  have hL := sumSize_length (size := fun s : Str => s.length + 1) (fun _ => by omega) l
  unfold strsSize at hl hW
  unfold wNames
  repeat' first | refine .seq ?_ | refine .rg ?_ | refine .rd ?_ | refine .block ?_ | refine .scope ?_ | refine .skip ?_ | refine .label ?_ | refine .exit ?_ | refine .ret ?_ | refine .ct ?_ | refine .cf ?_ | refine .cy ?_ | refine .cn ?_ | (refine .cond rfl ?_ ?_ <;> intro hc) | refine A.nil_seq ?_ | refine .nl ?_ | refine .dd ?_ | refine .ys ?_ | refine .no ?_ | (refine A.guard rfl ?_ ?_ <;> intro hc) | refine .lb ?_ | refine .ln ?_ | refine .ls ?_ | refine .pv ?_ | refine .ix ?_ | refine .pt ?_ | refine .pf ?_ | refine .bx ?_ | refine .al ?_ | refine .st ?_ | refine .ad ?_ | refine .sb ?_ | refine .mf ?_ | refine .cl ?_ | refine .cw ?_ | refine .ck ?_ | fail
  refine HCode.forK l.length (fun k => [(10, .int .i64 k), (9, .int .i64 l.length), (8, .slice (l.map AV.str) .no), (1, .str mark), (3, .ptr 1 0)]) (fun k => wst2 (wNmK mark l k W)) (fun _ => True) ⟨rfl, by rw [← hll]; rfl, rfl, rfl, rfl, trivial⟩ rfl trivial fun k hk _ => ?_
  have hlen := len_nmK mark l k W
  by_cases h1 : k < l.length
  · have d1 : decide ((k : Int) < (l.length : Int)) = true := by simp [h1]
    have x1 := map_get' (f := AV.str) h1
    have hm := sumSize_mem (size := fun s : Str => s.length + 1) (List.getElem_mem h1)
    have hn : wNmK mark l (k + 1) W = wName l[k] (if k = 0 then wNmK mark l k W else wMark mark (wNmK mark l k W)) := by rw [wNmK]; simp [h1]
    generalize hWk : wNmK mark l k W = Wk at *
    by_cases h0 : k = 0
    · have d2 : decide (0 < (k : Int)) = false := decide_eq_false (by omega)
      rw [if_pos h0] at hn
      have c2 := cName Wk l[k] (by omega) (by omega)
      repeat' first | refine .seq ?_ | refine .rg ?_ | refine .rd ?_ | refine .block ?_ | refine .scope ?_ | refine .skip ?_ | refine .label ?_ | refine .exit ?_ | refine .ret ?_ | refine .ct ?_ | refine .cf ?_ | refine .cy ?_ | refine .cn ?_ | (refine .cond rfl ?_ ?_ <;> intro hc) | refine A.nil_seq ?_ | refine .nl ?_ | refine .dd ?_ | refine .ys ?_ | refine .no ?_ | (refine A.guard rfl ?_ ?_ <;> intro hc) | refine .lb ?_ | refine .ln ?_ | refine .ls ?_ | refine .pv ?_ | refine .ix ?_ | refine .pt ?_ | refine .pf ?_ | refine .bx ?_ | refine .al ?_ | refine .st ?_ | refine .ad ?_ | refine .sb ?_ | refine .mf ?_ | refine .cl ?_ | refine .cw ?_ | refine .ck ?_ | refine A.callWC c2 rfl rfl rfl rfl (WeakL.refl _) ?_ | fail
      exact ⟨h1, ⟨rfl, rfl, rfl, rfl, rfl, trivial⟩, by simp [belowS, AV.low], wst_below2 _, (congrArg wst2 hn).symm, trivial⟩
    · have d2 : decide (0 < (k : Int)) = true := decide_eq_true (by omega)
      rw [if_neg h0] at hn
      have c1 := cMark Wk mark (by omega)
      have c2 := cName (wMark mark Wk) l[k] (by omega) (by rw [len_mark]; omega)
      repeat' first | refine .seq ?_ | refine .rg ?_ | refine .rd ?_ | refine .block ?_ | refine .scope ?_ | refine .skip ?_ | refine .label ?_ | refine .exit ?_ | refine .ret ?_ | refine .ct ?_ | refine .cf ?_ | refine .cy ?_ | refine .cn ?_ | (refine .cond rfl ?_ ?_ <;> intro hc) | refine A.nil_seq ?_ | refine .nl ?_ | refine .dd ?_ | refine .ys ?_ | refine .no ?_ | (refine A.guard rfl ?_ ?_ <;> intro hc) | refine .lb ?_ | refine .ln ?_ | refine .ls ?_ | refine .pv ?_ | refine .ix ?_ | refine .pt ?_ | refine .pf ?_ | refine .bx ?_ | refine .al ?_ | refine .st ?_ | refine .ad ?_ | refine .sb ?_ | refine .mf ?_ | refine .cl ?_ | refine .cw ?_ | refine .ck ?_ | refine A.callWC c1 rfl rfl rfl rfl weak_full ?_ | refine A.callWC c2 rfl rfl rfl rfl (WeakL.refl _) ?_ | fail
      exact ⟨h1, ⟨rfl, rfl, rfl, rfl, rfl, trivial⟩, by simp [belowS, AV.low], wst_below2 _, (congrArg wst2 hn).symm, trivial⟩
  · have d1 : decide ((k : Int) < (l.length : Int)) = false := by simp; omega
    obtain rfl : k = l.length := by omega
    repeat' first | refine .seq ?_ | refine .rg ?_ | refine .rd ?_ | refine .block ?_ | refine .scope ?_ | refine .skip ?_ | refine .label ?_ | refine .exit ?_ | refine .ret ?_ | refine .ct ?_ | refine .cf ?_ | refine .cy ?_ | refine .cn ?_ | (refine .cond rfl ?_ ?_ <;> intro hc) | refine A.nil_seq ?_ | refine .nl ?_ | refine .dd ?_ | refine .ys ?_ | refine .no ?_ | (refine A.guard rfl ?_ ?_ <;> intro hc) | refine .lb ?_ | refine .ln ?_ | refine .ls ?_ | refine .pv ?_ | refine .ix ?_ | refine .pt ?_ | refine .pf ?_ | refine .bx ?_ | refine .al ?_ | refine .st ?_ | refine .ad ?_ | refine .sb ?_ | refine .mf ?_ | refine .cl ?_ | refine .cw ?_ | refine .ck ?_ | fail
    exact ⟨rfl, rfl, rfl⟩
def wFldP (f : Fld) (W : WS) : WS := if f.params = [] then W else wMark [41] (wPars f.params (wMark [40] W))
def wFld (W : WS) (f : Fld) : WS := wDirs true f.dirs (wType f.t (wMark [58] (wFldP f (wName f.name W))))
def wFlds (l : List Fld) (W : WS) : WS := l.foldl wFld W
theorem len_fldP (f : Fld) (W : WS) : (wFldP f W).l.length ≤ W.l.length + 4 * sumSize Par.size f.params + 2 := by
  have h := len_pars f.params (wMark [40] W)
  rw [len_mark] at h
  unfold wFldP
  split
  · omega
  · rw [len_mark]; omega
theorem len_fld (W : WS) (f : Fld) : (wFld W f).l.length ≤ W.l.length + 4 * f.size + 4 := by
  have h1 := len_dirs true f.dirs (wType f.t (wMark [58] (wFldP f (wName f.name W))))
  have h2 := len_type f.t (wMark [58] (wFldP f (wName f.name W)))
  have h3 := len_fldP f (wName f.name W)
  rw [len_mark] at h2
  rw [len_name] at h3
  unfold wFld Fld.size Typ.size; omega
theorem len_flds (l : List Fld) (W : WS) : (wFlds l W).l.length ≤ W.l.length + 8 * sumSize Fld.size l := by
  have := fold_len wFld (fun m => 8 * m.size) (fun W f => by have h := len_fld W f; have : 4 ≤ f.size := by unfold Fld.size; omega
                                                             omega) l W
  rwa [sum_mul] at this
theorem ok_fldP (f : Fld) (W : WS) : (wFldP f W).ok = (W.ok && f.params.all parOk) := by
  unfold wFldP
  split
  next e => rw [e]; simp
  · show (wPars f.params (wMark [40] W)).ok = _
    rw [ok_pars]; rfl
theorem ok_flds (l : List Fld) (W : WS) : (wFlds l W).ok = (W.ok && l.all fldOk) :=
  fold_ok _ _ (fun W f => by
    show (wDirs true f.dirs (wType f.t (wMark [58] (wFldP f (wName f.name W))))).ok = _
    rw [ok_dirs, ok_type]
    show (((wFldP f (wName f.name W)).ok && rightT f.t) && f.dirs.all dirOk) = _
    rw [ok_fldP]
    show ((((W.ok && nameB f.name) && f.params.all parOk) && rightT f.t) && f.dirs.all dirOk) = _
    unfold fldOk
    simp only [Bool.and_assoc]) l W
theorem len_pos {α : Type} (l : List α) : decide (0 < (l.length : Int)) = decide (l ≠ []) := by
  cases l <;> simp <;> omega
theorem cFlds (W : WS) (l : List Fld) (hl : sumSize Fld.size l ≤ 1048640) (ho : ∀ f ∈ l, f.ok) (hW : W.l.length + 8 * sumSize Fld.size l + 4 ≤ 1099511627776) : WC 247 (.agg [.ptr 0 0]) [.slice (l.map Fld.enc) .no] W (wFlds l W) := by
  refine WC.of (AFn.enter [] Tryz.func247 rfl rfl rfl rfl rfl (by decide) ?_)
  have hll : (l.map Fld.enc).length = l.length := List.length_map ..
  have hL := sumSize_length (size := Fld.size) (fun d => by unfold Fld.size; omega) l
  unfold wFlds
  repeat' first | refine .seq ?_ | refine .rg ?_ | refine .rd ?_ | refine .block ?_ | refine .scope ?_ | refine .skip ?_ | refine .label ?_ | refine .exit ?_ | refine .ret ?_ | refine .ct ?_ | refine .cf ?_ | refine .cy ?_ | refine .cn ?_ | (refine .cond rfl ?_ ?_ <;> intro hc) | refine A.nil_seq ?_ | refine .nl ?_ | refine .dd ?_ | refine .ys ?_ | refine .no ?_ | (refine A.guard rfl ?_ ?_ <;> intro hc) | refine .lb ?_ | refine .ln ?_ | refine .ls ?_ | refine .pv ?_ | refine .ix ?_ | refine .pt ?_ | refine .pf ?_ | refine .bx ?_ | refine .al ?_ | refine .st ?_ | refine .ad ?_ | refine .sb ?_ | refine .mf ?_ | refine .cl ?_ | refine .cw ?_ | refine .ck ?_ | fail
  refine HCode.forK l.length (fun k => [(8, .int .i64 k), (7, .int .i64 l.length), (6, .slice (l.map Fld.enc) .no), (2, .ptr 1 0)]) (fun k => wst2 ((l.take k).foldl wFld W)) (fun _ => True) ⟨rfl, by rw [← hll]; rfl, rfl, rfl, trivial⟩ rfl trivial fun k hk _ => ?_
  have hlen := len_flds (l.take k) W
  unfold wFlds at hlen
  by_cases h1 : k < l.length
  · have d1 : decide ((k : Int) < (l.length : Int)) = true := by simp [h1]
    have x1 := map_get' (f := Fld.enc) h1
    have hst := wsum_le Fld.size l k h1
    have hfe : l[k].size = l[k].name.length + sumSize Par.size l[k].params + l[k].t.size + sumSize Dirc.size l[k].dirs + 4 := rfl
    have hte : l[k].t.size = l[k].t.name.length + 4 := rfl
    have hpo := ho l[k] (List.getElem_mem h1)
    have hn := fold_take' wFld h1 W
    have hg := len_pos l[k].params
    generalize hWk : (l.take k).foldl wFld W = Wk at *
    have c2 := cName Wk l[k].name (by omega) (by omega)
    have l2 := len_name l[k].name Wk
    generalize hW2 : wName l[k].name Wk = W2 at *
    have l3 := len_fldP l[k] W2
    have c5 := cMark (wFldP l[k] W2) [58] (by omega)
    have c6 := cType (wMark [58] (wFldP l[k] W2)) l[k].t (by omega) (by rw [len_mark]; omega)
    have l6 := len_type l[k].t (wMark [58] (wFldP l[k] W2))
    rw [len_mark] at l6
    have c7 := cDirs (wType l[k].t (wMark [58] (wFldP l[k] W2))) true l[k].dirs (by omega) hpo.2 (by omega)
    have hn2 : wFld Wk l[k] = wDirs true l[k].dirs (wType l[k].t (wMark [58] (wFldP l[k] W2))) := by rw [← hW2]; rfl
    rw [hn2] at hn
    by_cases h0 : l[k].params = []
    · have d2 : decide (0 < (l[k].params.length : Int)) = false := by rw [hg]; simp [h0]
      rw [show wFldP l[k] W2 = W2 from if_pos h0] at c5 c6 c7 hn
      repeat' first | refine .seq ?_ | refine .rg ?_ | refine .rd ?_ | refine .block ?_ | refine .scope ?_ | refine .skip ?_ | refine .label ?_ | refine .exit ?_ | refine .ret ?_ | refine .ct ?_ | refine .cf ?_ | refine .cy ?_ | refine .cn ?_ | (refine .cond rfl ?_ ?_ <;> intro hc) | refine A.nil_seq ?_ | refine .nl ?_ | refine .dd ?_ | refine .ys ?_ | refine .no ?_ | (refine A.guard rfl ?_ ?_ <;> intro hc) | refine .lb ?_ | refine .ln ?_ | refine .ls ?_ | refine .pv ?_ | refine .ix ?_ | refine .pt ?_ | refine .pf ?_ | refine .bx ?_ | refine .al ?_ | refine .st ?_ | refine .ad ?_ | refine .sb ?_ | refine .mf ?_ | refine .cl ?_ | refine .cw ?_ | refine .ck ?_ | refine A.callWC c2 rfl rfl rfl rfl (WeakL.refl _) ?_ | refine A.callWC c5 rfl rfl rfl rfl weak_full ?_ | refine A.callWC c6 rfl rfl rfl rfl (WeakL.refl _) ?_ | refine A.callWC c7 rfl rfl rfl (by simp [AV.closedL, AV.closed, Dirc.closedL]) (WeakL.refl _) ?_ | fail
      exact ⟨h1, ⟨rfl, rfl, rfl, rfl, trivial⟩, by simp [belowS, AV.low], wst_below2 _, (congrArg wst2 hn).symm, trivial⟩
    · have d2 : decide (0 < (l[k].params.length : Int)) = true := by rw [hg]; simp [h0]
      rw [show wFldP l[k] W2 = wMark [41] (wPars l[k].params (wMark [40] W2)) from if_neg h0] at c5 c6 c7 hn
      have c3 := cMark W2 [40] (by omega)
      have c4 := cPars (wMark [40] W2) l[k].params (by omega) hpo.1 (by rw [len_mark]; omega)
      have l4 := len_pars l[k].params (wMark [40] W2)
      rw [len_mark] at l4
      have c8 := cMark (wPars l[k].params (wMark [40] W2)) [41] (by omega)
      repeat' first | refine .seq ?_ | refine .rg ?_ | refine .rd ?_ | refine .block ?_ | refine .scope ?_ | refine .skip ?_ | refine .label ?_ | refine .exit ?_ | refine .ret ?_ | refine .ct ?_ | refine .cf ?_ | refine .cy ?_ | refine .cn ?_ | (refine .cond rfl ?_ ?_ <;> intro hc) | refine A.nil_seq ?_ | refine .nl ?_ | refine .dd ?_ | refine .ys ?_ | refine .no ?_ | (refine A.guard rfl ?_ ?_ <;> intro hc) | refine .lb ?_ | refine .ln ?_ | refine .ls ?_ | refine .pv ?_ | refine .ix ?_ | refine .pt ?_ | refine .pf ?_ | refine .bx ?_ | refine .al ?_ | refine .st ?_ | refine .ad ?_ | refine .sb ?_ | refine .mf ?_ | refine .cl ?_ | refine .cw ?_ | refine .ck ?_ | refine A.callWC c2 rfl rfl rfl rfl (WeakL.refl _) ?_ | refine A.callWC c3 rfl rfl rfl rfl weak_full ?_ | refine A.callWC c4 rfl rfl rfl (by simp [AV.closedL, AV.closed, Par.closedL]) (WeakL.refl _) ?_ | refine A.callWC c8 rfl rfl rfl rfl weak_full ?_ | refine A.callWC c5 rfl rfl rfl rfl weak_full ?_ | refine A.callWC c6 rfl rfl rfl rfl (WeakL.refl _) ?_ | refine A.callWC c7 rfl rfl rfl (by simp [AV.closedL, AV.closed, Dirc.closedL]) (WeakL.refl _) ?_ | fail
      exact ⟨h1, ⟨rfl, rfl, rfl, rfl, trivial⟩, by simp [belowS, AV.low], wst_below2 _, (congrArg wst2 hn).symm, trivial⟩
  · have d1 : decide ((k : Int) < (l.length : Int)) = false := by simp; omega
    obtain rfl : k = l.length := by omega
    rw [List.take_length] at *
    repeat' first | refine .seq ?_ | refine .rg ?_ | refine .rd ?_ | refine .block ?_ | refine .scope ?_ | refine .skip ?_ | refine .label ?_ | refine .exit ?_ | refine .ret ?_ | refine .ct ?_ | refine .cf ?_ | refine .cy ?_ | refine .cn ?_ | (refine .cond rfl ?_ ?_ <;> intro hc) | refine A.nil_seq ?_ | refine .nl ?_ | refine .dd ?_ | refine .ys ?_ | refine .no ?_ | (refine A.guard rfl ?_ ?_ <;> intro hc) | refine .lb ?_ | refine .ln ?_ | refine .ls ?_ | refine .pv ?_ | refine .ix ?_ | refine .pt ?_ | refine .pf ?_ | refine .bx ?_ | refine .al ?_ | refine .st ?_ | refine .ad ?_ | refine .sb ?_ | refine .mf ?_ | refine .cl ?_ | refine .cw ?_ | refine .ck ?_ | fail
    exact ⟨rfl, rfl, rfl⟩
def sImpl : Str := [105, 109, 112, 108, 101, 109, 101, 110, 116, 115]
def sType : Str := [116, 121, 112, 101]
def sFace : Str := [105, 110, 116, 101, 114, 102, 97, 99, 101]
def sUnion : Str := [117, 110, 105, 111, 110]
def sEnum : Str := [101, 110, 117, 109]
def sInput : Str := [105, 110, 112, 117, 116]
def sSchema : Str := [115, 99, 104, 101, 109, 97]
def sQuery : Str := [113, 117, 101, 114, 121]
def sMut : Str := [109, 117, 116, 97, 116, 105, 111, 110]
theorem nm_sImpl : nameB sImpl = true := by decide
theorem nm_sType : nameB sType = true := by decide
theorem nm_sFace : nameB sFace = true := by decide
theorem nm_sUnion : nameB sUnion = true := by decide
theorem nm_sEnum : nameB sEnum = true := by decide
theorem nm_sInput : nameB sInput = true := by decide
theorem nm_sSchema : nameB sSchema = true := by decide
theorem nm_sQuery : nameB sQuery = true := by decide
theorem nm_sMut : nameB sMut = true := by decide
theorem lens2 {α β : Type} (a : List α) (b : List β) : ((a.length : Int) + (b.length : Int) == 0) = decide (a = [] ∧ b = []) := by
  rw [Bool.eq_iff_iff, beq_iff_eq, decide_eq_true_eq, ← List.length_eq_zero_iff, ← List.length_eq_zero_iff]
  omega
theorem lens3 {α β γ : Type} (a : List α) (b : List β) (c : List γ) : ((a.length : Int) + (b.length : Int) + (c.length : Int) == 0) = decide (a = [] ∧ b = [] ∧ c = []) := by
  rw [Bool.eq_iff_iff, beq_iff_eq, decide_eq_true_eq, ← List.length_eq_zero_iff, ← List.length_eq_zero_iff, ← List.length_eq_zero_iff]
  omega
def wFaces (d : Dfn) (W : WS) : WS := if d.faces = [] then W else wNames [38] d.faces (wName sImpl W)
def wObj0 (d : Dfn) (W : WS) : WS := wMark [125] (wFlds d.fields (wMark [123] (wFaces d W)))
def wObj (word : Str) (d : Dfn) (W : WS) : WS := wObj0 d (wName d.name (wName word (wNeed (decide (d.fields ≠ []) && decide (d.parts = [] ∧ d.params = [])) W)))
theorem len_faces (d : Dfn) (W : WS) : (wFaces d W).l.length ≤ W.l.length + 4 * strsSize d.faces + 1 := by
  have h := len_names [38] d.faces (wName sImpl W)
  rw [len_name] at h
  unfold wFaces
  split <;> omega
theorem len_obj (word : Str) (d : Dfn) (W : WS) : (wObj word d W).l.length ≤ W.l.length + 8 * d.size := by
  have h1 := len_flds d.fields (wMark [123] (wFaces d (wName d.name (wName word (wNeed (decide (d.fields ≠ []) && decide (d.parts = [] ∧ d.params = [])) W)))))
  have h2 := len_faces d (wName d.name (wName word (wNeed (decide (d.fields ≠ []) && decide (d.parts = [] ∧ d.params = [])) W)))
  rw [len_mark] at h1
  rw [len_name, len_name, len_need] at h2
  unfold wObj wObj0 Dfn.size
  rw [len_mark]; omega
theorem ok_faces (d : Dfn) (W : WS) : (wFaces d W).ok = (W.ok && d.faces.all nameB) := by
  unfold wFaces
  split
  next e => rw [e]; simp
  · rw [ok_names]
    show ((W.ok && nameB sImpl) && _) = _
    rw [nm_sImpl, Bool.and_true]
theorem ok_obj (word : Str) (hw : nameB word = true) (d : Dfn) (W : WS) : (wObj word d W).ok = (W.ok && ((decide (d.fields ≠ []) && decide (d.parts = [] ∧ d.params = [])) && (nameB d.name && (d.faces.all nameB && d.fields.all fldOk)))) := by
  show (wFlds d.fields (wMark [123] (wFaces d (wName d.name (wName word (wNeed (decide (d.fields ≠ []) && decide (d.parts = [] ∧ d.params = [])) W)))))).ok = _
  rw [ok_flds]
  show ((wFaces d (wName d.name (wName word (wNeed (decide (d.fields ≠ []) && decide (d.parts = [] ∧ d.params = [])) W)))).ok && _) = _
  rw [ok_faces]
  show (((((W.ok && (decide (d.fields ≠ []) && decide (d.parts = [] ∧ d.params = []))) && nameB word) && nameB d.name) && d.faces.all nameB) && d.fields.all fldOk) = _
  rw [hw, Bool.and_true]
  simp only [Bool.and_assoc]
theorem cObj (W : WS) (word : Str) (d : Dfn) (hw : word.length ≤ 1048640) (hd : d.size ≤ 1048640) (ho : d.ok) (hW : W.l.length + 8 * d.size + 4 ≤ 1099511627776) : WC 230 (.agg [.ptr 0 0]) [.str word, d.enc] W (wObj word d W) := by
  refine WC.of (AFn.enter [] Tryz.func230 rfl rfl rfl rfl rfl (by decide) ?_)
  have hds : d.size = d.name.length + strsSize d.faces + sumSize Fld.size d.fields + strsSize d.parts + sumSize Par.size d.params + 5 := rfl
  have p1 := sumSize_length (size := fun s : Str => s.length + 1) (fun _ => by omega) d.parts
  have p2 := sumSize_length (size := Par.size) (fun d => by unfold Par.size; omega) d.params
  have p3 : strsSize d.parts = sumSize (fun s : Str => s.length + 1) d.parts + 1 := rfl
  have hl := lens2 d.parts d.params
  have hg := len_pos d.fields
  have hf := len_pos d.faces
  unfold wObj
  rw [← hl]
  have main : ∀ b : Bool, b = (decide (d.fields ≠ []) && ((d.parts.length : Int) + (d.params.length : Int) == 0)) → HCode Tryz.prog Tryz.f230.ntmps [] (bodyOf Tryz.f230) (fin [] (fun e σ1 => e = .ret (.tup []) ∧ σ1.B.take 1 = [.cells (wObj0 d (wName d.name (wName word (wNeed b W)))).cs] ∧ σ1.T.take 1 = [.len (wObj0 d (wName d.name (wName word (wNeed b W)))).l.length]))
      (argSlots 0 [.agg [.ptr 0 0], .str word, d.enc]) ⟨[.cells W.cs], [.len W.l.length]⟩ := fun b hb => by
    have c1 := cNeed W b
    have c2 := cName (wNeed b W) word hw (by rw [len_need]; omega)
    have c3 := cName (wName word (wNeed b W)) d.name (by omega) (by rw [len_name, len_need]; omega)
    have l3 : (wName d.name (wName word (wNeed b W))).l.length = W.l.length + 2 := by rw [len_name, len_name, len_need]
    generalize hW2 : wName d.name (wName word (wNeed b W)) = W2 at *
    have l4 := len_faces d W2
    have c6 := cMark (wFaces d W2) [123] (by omega)
    have c7 := cFlds (wMark [123] (wFaces d W2)) d.fields (by omega) ho.1 (by rw [len_mark]; omega)
    have l7 := len_flds d.fields (wMark [123] (wFaces d W2))
    rw [len_mark] at l7
    have c8 := cMark (wFlds d.fields (wMark [123] (wFaces d W2))) [125] (by omega)
    unfold wObj0
    by_cases hpos : decide (d.faces ≠ []) = false
    · have d2 : decide (0 < (d.faces.length : Int)) = false := by rw [hf]; exact hpos
      rw [show wFaces d W2 = _ from if_pos (by simpa using hpos)] at c6 c7 c8 ⊢
      have c4 := cName W2 sImpl (by decide) (by omega)
      have c5 := cNames (wName sImpl W2) [38] d.faces (by omega) (by rw [len_name]; omega)
      cases hB : decide (d.fields ≠ []) with
      | false =>
        have d1 : decide (0 < (d.fields.length : Int)) = false := by rw [hg]; exact hB
        rw [hB] at hb
        obtain rfl : b = false := hb
        repeat' first | refine .br ?_ | refine .seq ?_ | refine .rg ?_ | refine .rd ?_ | refine .block ?_ | refine .scope ?_ | refine .skip ?_ | refine .label ?_ | refine .exit ?_ | refine .ret ?_ | refine .ct ?_ | refine .cf ?_ | refine .cy ?_ | refine .cn ?_ | (refine .cond rfl ?_ ?_ <;> intro hc) | refine A.nil_seq ?_ | refine .nl ?_ | refine .dd ?_ | refine .ys ?_ | refine .no ?_ | (refine A.guard rfl ?_ ?_ <;> intro hc) | refine .lb ?_ | refine .ln ?_ | refine .ls ?_ | refine .pv ?_ | refine .ix ?_ | refine .pt ?_ | refine .pf ?_ | refine .bx ?_ | refine .al ?_ | refine .st ?_ | refine .ad ?_ | refine .sb ?_ | refine .mf ?_ | refine .cl ?_ | refine .cw ?_ | refine .ck ?_ | refine A.callWC c1 rfl rfl rfl rfl (WeakL.refl _) ?_ | refine A.callWC c2 rfl rfl rfl rfl (WeakL.refl _) ?_ | refine A.callWC c3 rfl rfl rfl rfl (WeakL.refl _) ?_ | refine A.callWC c4 rfl rfl rfl rfl (WeakL.refl _) ?_ | refine A.callWC c5 rfl rfl rfl (by simp [AV.closedL, AV.closed, str_closedL]) (WeakL.refl _) ?_ | refine A.callWC c6 rfl rfl rfl rfl weak_full ?_ | refine A.callWC c7 rfl rfl rfl (by simp [AV.closedL, AV.closed, Fld.closedL]) (WeakL.refl _) ?_ | refine A.callWC c8 rfl rfl rfl rfl weak_full ?_ | fail
        exact ⟨rfl, rfl, rfl⟩
      | true =>
        have d1 : decide (0 < (d.fields.length : Int)) = true := by rw [hg]; exact hB
        rw [hB] at hb
        obtain rfl : b = ((d.parts.length : Int) + (d.params.length : Int) == 0) := hb
        repeat' first | refine .br ?_ | refine .seq ?_ | refine .rg ?_ | refine .rd ?_ | refine .block ?_ | refine .scope ?_ | refine .skip ?_ | refine .label ?_ | refine .exit ?_ | refine .ret ?_ | refine .ct ?_ | refine .cf ?_ | refine .cy ?_ | refine .cn ?_ | (refine .cond rfl ?_ ?_ <;> intro hc) | refine A.nil_seq ?_ | refine .nl ?_ | refine .dd ?_ | refine .ys ?_ | refine .no ?_ | (refine A.guard rfl ?_ ?_ <;> intro hc) | refine .lb ?_ | refine .ln ?_ | refine .ls ?_ | refine .pv ?_ | refine .ix ?_ | refine .pt ?_ | refine .pf ?_ | refine .bx ?_ | refine .al ?_ | refine .st ?_ | refine .ad ?_ | refine .sb ?_ | refine .mf ?_ | refine .cl ?_ | refine .cw ?_ | refine .ck ?_ | refine A.callWC c1 rfl rfl rfl rfl (WeakL.refl _) ?_ | refine A.callWC c2 rfl rfl rfl rfl (WeakL.refl _) ?_ | refine A.callWC c3 rfl rfl rfl rfl (WeakL.refl _) ?_ | refine A.callWC c4 rfl rfl rfl rfl (WeakL.refl _) ?_ | refine A.callWC c5 rfl rfl rfl (by simp [AV.closedL, AV.closed, str_closedL]) (WeakL.refl _) ?_ | refine A.callWC c6 rfl rfl rfl rfl weak_full ?_ | refine A.callWC c7 rfl rfl rfl (by simp [AV.closedL, AV.closed, Fld.closedL]) (WeakL.refl _) ?_ | refine A.callWC c8 rfl rfl rfl rfl weak_full ?_ | fail
        exact ⟨rfl, rfl, rfl⟩
    by_cases hneg : decide (d.faces ≠ []) = true
    · have d2 : decide (0 < (d.faces.length : Int)) = true := by rw [hf]; exact hneg
      rw [show wFaces d W2 = _ from if_neg (by simpa using hneg)] at c6 c7 c8 ⊢
      have c4 := cName W2 sImpl (by decide) (by omega)
      have c5 := cNames (wName sImpl W2) [38] d.faces (by omega) (by rw [len_name]; omega)
      cases hB : decide (d.fields ≠ []) with
      | false =>
        have d1 : decide (0 < (d.fields.length : Int)) = false := by rw [hg]; exact hB
        rw [hB] at hb
        obtain rfl : b = false := hb
        repeat' first | refine .br ?_ | refine .seq ?_ | refine .rg ?_ | refine .rd ?_ | refine .block ?_ | refine .scope ?_ | refine .skip ?_ | refine .label ?_ | refine .exit ?_ | refine .ret ?_ | refine .ct ?_ | refine .cf ?_ | refine .cy ?_ | refine .cn ?_ | (refine .cond rfl ?_ ?_ <;> intro hc) | refine A.nil_seq ?_ | refine .nl ?_ | refine .dd ?_ | refine .ys ?_ | refine .no ?_ | (refine A.guard rfl ?_ ?_ <;> intro hc) | refine .lb ?_ | refine .ln ?_ | refine .ls ?_ | refine .pv ?_ | refine .ix ?_ | refine .pt ?_ | refine .pf ?_ | refine .bx ?_ | refine .al ?_ | refine .st ?_ | refine .ad ?_ | refine .sb ?_ | refine .mf ?_ | refine .cl ?_ | refine .cw ?_ | refine .ck ?_ | refine A.callWC c1 rfl rfl rfl rfl (WeakL.refl _) ?_ | refine A.callWC c2 rfl rfl rfl rfl (WeakL.refl _) ?_ | refine A.callWC c3 rfl rfl rfl rfl (WeakL.refl _) ?_ | refine A.callWC c4 rfl rfl rfl rfl (WeakL.refl _) ?_ | refine A.callWC c5 rfl rfl rfl (by simp [AV.closedL, AV.closed, str_closedL]) (WeakL.refl _) ?_ | refine A.callWC c6 rfl rfl rfl rfl weak_full ?_ | refine A.callWC c7 rfl rfl rfl (by simp [AV.closedL, AV.closed, Fld.closedL]) (WeakL.refl _) ?_ | refine A.callWC c8 rfl rfl rfl rfl weak_full ?_ | fail
        exact ⟨rfl, rfl, rfl⟩
      | true =>
        have d1 : decide (0 < (d.fields.length : Int)) = true := by rw [hg]; exact hB
        rw [hB] at hb
        obtain rfl : b = ((d.parts.length : Int) + (d.params.length : Int) == 0) := hb
        repeat' first | refine .br ?_ | refine .seq ?_ | refine .rg ?_ | refine .rd ?_ | refine .block ?_ | refine .scope ?_ | refine .skip ?_ | refine .label ?_ | refine .exit ?_ | refine .ret ?_ | refine .ct ?_ | refine .cf ?_ | refine .cy ?_ | refine .cn ?_ | (refine .cond rfl ?_ ?_ <;> intro hc) | refine A.nil_seq ?_ | refine .nl ?_ | refine .dd ?_ | refine .ys ?_ | refine .no ?_ | (refine A.guard rfl ?_ ?_ <;> intro hc) | refine .lb ?_ | refine .ln ?_ | refine .ls ?_ | refine .pv ?_ | refine .ix ?_ | refine .pt ?_ | refine .pf ?_ | refine .bx ?_ | refine .al ?_ | refine .st ?_ | refine .ad ?_ | refine .sb ?_ | refine .mf ?_ | refine .cl ?_ | refine .cw ?_ | refine .ck ?_ | refine A.callWC c1 rfl rfl rfl rfl (WeakL.refl _) ?_ | refine A.callWC c2 rfl rfl rfl rfl (WeakL.refl _) ?_ | refine A.callWC c3 rfl rfl rfl rfl (WeakL.refl _) ?_ | refine A.callWC c4 rfl rfl rfl rfl (WeakL.refl _) ?_ | refine A.callWC c5 rfl rfl rfl (by simp [AV.closedL, AV.closed, str_closedL]) (WeakL.refl _) ?_ | refine A.callWC c6 rfl rfl rfl rfl weak_full ?_ | refine A.callWC c7 rfl rfl rfl (by simp [AV.closedL, AV.closed, Fld.closedL]) (WeakL.refl _) ?_ | refine A.callWC c8 rfl rfl rfl rfl weak_full ?_ | fail
        exact ⟨rfl, rfl, rfl⟩
    exfalso
    cases h : decide (d.faces ≠ []) <;> simp_all
  exact main _ rfl
end Go.Proofs.YtegakkonlhmeaaaGreatDoor
