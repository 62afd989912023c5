/-
  Contracts and plain facts for a law, joined.
-/
import Derived.Test.YtegakkonlhmeaaaGreatDoorGSCA12
import Derived.Test.YtegakkonlhmeaaaGreatDoorGSCA15
set_option maxRecDepth 100000
set_option maxHeartbeats 16000000
set_option linter.unusedVariables false
set_option linter.unusedSimpArgs false
set_option linter.unusedSectionVars false
namespace Go.Av
open Go
section
variable [Globals]
variable {P : Program} {all : Array Oper} {draw : Bool} {K : AX → Slots → St → Prop} {rest : List Oper} {acc : List Tag} {s : Slots} {σ : St} {ty : TypeId} {pos : String} {af : Array Edge}
theorem A.callNB {d : Option Tmp} {f : FuncId} {args : Array Operand} {tys : Array TypeId} {vals vals0 cs : List AV} {n : Nat} {v : AV} (hp : AFn P f vals0 ⟨[], []⟩ (fun e σ1 => e = .ret v ∧ σ1 = ⟨[.cells cs], [.len n]⟩)) (hσ : σ = ⟨[], []⟩) (ha : evsK s args.toList some = some vals)
    (hc : AV.closedL vals0 = true) (hw : WeakL vals vals0) (hv : v.low 1 1 = true) (hcs : AV.lowL 1 1 cs = true)
    (k : AOps P all draw K rest (.all :: acc) (putS d v s) ⟨[.cells cs], [.len n]⟩) : AOps P all draw K (⟨d, .call ⟨.value (.func f), args, tys⟩, ty, pos, af, none⟩ :: rest) acc s σ := by
  subst hσ
  have hft : ∀ k, k < 1 → emb 0 [] k = k := fun k _ => by simp [emb]
  refine A.callR (nB := 0) (nT := 0) (B0 := []) (T0 := []) (B1 := [.cells cs]) (T1 := [.len n]) (v0 := v) [] [] ha hp rfl rfl ⟨List.nodup_nil, by simp⟩ ⟨List.nodup_nil, by simp⟩ rfl rfl (fun k i ob h => by simp at h) (fun k i t h => by simp at h) rfl rfl
    (AV.lowL_of_closed _ _ _ hc) (by rw [AV.renL_closed _ _ _ hc]; exact hw) (AV.ren_same hft hft v hv) (B' := [.cells cs]) (T' := [.len n]) ?_ ?_ k
  · rw [merge_nil, List.map_cons, Ob.ren, AV.renL_same hft hft cs hcs]; rfl
  · rw [merge_nil]; rfl
end
end Go.Av
namespace Go.Proofs.YtegakkonlhmeaaaGreatDoor
open Go Go.Av
attribute [local irreducible] HCode AOps PFn AFn Av.Step TStep
def wPart (W : WS) (s : Str) : WS := wName s (wNeed (s != sTrue && (s != sFalse && s != sNull)) W)
def wUni (d : Dfn) (W : WS) : WS := wNames [124] d.parts (wMark [61] (wName d.name (wName sUnion W)))
def wEnu (d : Dfn) (W : WS) : WS := wMark [125] (d.parts.foldl wPart (wMark [123] (wName d.name (wName sEnum W))))
def needParts (d : Dfn) : Bool := decide (d.parts ≠ []) && decide (d.faces = [] ∧ d.fields = [] ∧ d.params = [])
def wPartsD (d : Dfn) (W : WS) : WS := if d.kind = 3 then wUni d (wNeed (needParts d) W) else wEnu d (wNeed (needParts d) W)
theorem len_partF (l : List Str) (W : WS) : (l.foldl wPart W).l.length ≤ W.l.length + sumSize (fun s : Str => s.length + 1) l :=
  fold_len wPart _ (fun W s => by unfold wPart; rw [len_name, len_need]; omega) l W
theorem len_uni (d : Dfn) (W : WS) : (wUni d W).l.length ≤ W.l.length + 4 * strsSize d.parts + 3 := by
  have h := len_names [124] d.parts (wMark [61] (wName d.name (wName sUnion W)))
  rw [len_mark, len_name, len_name] at h
  unfold wUni; omega
theorem len_enu (d : Dfn) (W : WS) : (wEnu d W).l.length ≤ W.l.length + 4 * strsSize d.parts + 4 := by
  have h := len_partF d.parts (wMark [123] (wName d.name (wName sEnum W)))
  rw [len_mark, len_name, len_name] at h
  unfold wEnu strsSize
  rw [len_mark]; omega
theorem len_partsD (d : Dfn) (W : WS) : (wPartsD d W).l.length ≤ W.l.length + 8 * d.size := by
  have h1 := len_uni d (wNeed (needParts d) W)
  have h2 := len_enu d (wNeed (needParts d) W)
  rw [len_need] at h1 h2
  unfold wPartsD Dfn.size
  split <;> omega
theorem ok_uni (d : Dfn) (W : WS) : (wUni d W).ok = (W.ok && (nameB d.name && d.parts.all nameB)) := by
  unfold wUni
  rw [ok_names]
  show (((W.ok && nameB sUnion) && nameB d.name) && _) = _
  rw [nm_sUnion, Bool.and_true, Bool.and_assoc]
theorem ok_enu (d : Dfn) (W : WS) : (wEnu d W).ok = (W.ok && (nameB d.name && d.parts.all partOk)) := by
  show (d.parts.foldl wPart (wMark [123] (wName d.name (wName sEnum W)))).ok = _
  rw [fold_ok wPart partOk (fun W s => by show ((W.ok && _) && nameB s) = _; unfold partOk; rw [Bool.and_assoc])]
  show (((W.ok && nameB sEnum) && nameB d.name) && _) = _
  rw [nm_sEnum, Bool.and_true, Bool.and_assoc]
theorem cUni (W : WS) (d : Dfn) (hk : d.kind = 3) (hd : d.size ≤ 1048640) (hW : W.l.length + 8 * d.size + 4 ≤ 1099511627776) (b : Bool) (hb : b = (decide (d.parts ≠ []) && ((d.faces.length : Int) + (d.fields.length : Int) + (d.params.length : Int) == 0))) :
    WC 231 (.agg [.ptr 0 0]) [d.enc] W (wUni d (wNeed b W)) := by
  refine WC.of (AFn.enter [] Tryz.func231 rfl rfl rfl rfl rfl (by decide) ?_)
  have hds : d.size = d.name.length + strsSize d.faces + sumSize Fld.size d.fields + strsSize d.parts + sumSize Par.size d.params + 5 := rfl
  have p1 := sumSize_length (size := fun s : Str => s.length + 1) (fun _ => by omega) d.faces
  have p2 := sumSize_length (size := Par.size) (fun d => by unfold Par.size; omega) d.params
  have p4 := sumSize_length (size := Fld.size) (fun d => by unfold Fld.size; omega) d.fields
  have p3 : strsSize d.faces = sumSize (fun s : Str => s.length + 1) d.faces + 1 := rfl
  have hg := len_pos d.parts
  have q3 : (d.kind == 3) = true := by rw [hk]; rfl
  have c1 := cNeed W b
  have c2 := cName (wNeed b W) sUnion (by decide) (by rw [len_need]; omega)
  have c3 := cName (wName sUnion (wNeed b W)) d.name (by omega) (by rw [len_name, len_need]; omega)
  have c4 := cMark (wName d.name (wName sUnion (wNeed b W))) [61] (by rw [len_name, len_name, len_need]; omega)
  have c5 := cNames (wMark [61] (wName d.name (wName sUnion (wNeed b W)))) [124] d.parts (by omega) (by rw [len_mark, len_name, len_name, len_need]; omega)
  unfold wUni
  cases hB : decide (d.parts ≠ []) with
  | false =>
    have d1 : decide (0 < (d.parts.length : Int)) = false := by rw [hg]; exact hB
    rw [hB] at hb
    obtain rfl : b = false := hb
    repeat' first | refine .br ?_ | refine .seq ?_ | refine .rg ?_ | refine .rd ?_ | refine .block ?_ | refine .scope ?_ | refine .skip ?_ | refine .label ?_ | refine .exit ?_ | refine .ret ?_ | refine .ct ?_ | refine .cf ?_ | refine .cy ?_ | refine .cn ?_ | (refine .cond rfl ?_ ?_ <;> intro hc) | refine A.nil_seq ?_ | refine .nl ?_ | refine .dd ?_ | refine .ys ?_ | refine .no ?_ | (refine A.guard rfl ?_ ?_ <;> intro hc) | refine .lb ?_ | refine .ln ?_ | refine .ls ?_ | refine .pv ?_ | refine .ix ?_ | refine .pt ?_ | refine .pf ?_ | refine .bx ?_ | refine .al ?_ | refine .st ?_ | refine .ad ?_ | refine .sb ?_ | refine .cl ?_ | refine .ck ?_ | refine A.callWC c1 rfl rfl rfl rfl (WeakL.refl _) ?_ | refine A.callWC c2 rfl rfl rfl rfl (WeakL.refl _) ?_ | refine A.callWC c3 rfl rfl rfl rfl (WeakL.refl _) ?_ | refine A.callWC c4 rfl rfl rfl rfl weak_full ?_ | refine A.callWC c5 rfl rfl rfl (by simp [AV.closedL, AV.closed, str_closedL]) (WeakL.refl _) ?_ | fail
    exact ⟨rfl, rfl, rfl⟩
  | true =>
    have d1 : decide (0 < (d.parts.length : Int)) = true := by rw [hg]; exact hB
    rw [hB] at hb
    obtain rfl : b = ((d.faces.length : Int) + (d.fields.length : Int) + (d.params.length : Int) == 0) := hb
    repeat' first | refine .br ?_ | refine .seq ?_ | refine .rg ?_ | refine .rd ?_ | refine .block ?_ | refine .scope ?_ | refine .skip ?_ | refine .label ?_ | refine .exit ?_ | refine .ret ?_ | refine .ct ?_ | refine .cf ?_ | refine .cy ?_ | refine .cn ?_ | (refine .cond rfl ?_ ?_ <;> intro hc) | refine A.nil_seq ?_ | refine .nl ?_ | refine .dd ?_ | refine .ys ?_ | refine .no ?_ | (refine A.guard rfl ?_ ?_ <;> intro hc) | refine .lb ?_ | refine .ln ?_ | refine .ls ?_ | refine .pv ?_ | refine .ix ?_ | refine .pt ?_ | refine .pf ?_ | refine .bx ?_ | refine .al ?_ | refine .st ?_ | refine .ad ?_ | refine .sb ?_ | refine .cl ?_ | refine .ck ?_ | refine A.callWC c1 rfl rfl rfl rfl (WeakL.refl _) ?_ | refine A.callWC c2 rfl rfl rfl rfl (WeakL.refl _) ?_ | refine A.callWC c3 rfl rfl rfl rfl (WeakL.refl _) ?_ | refine A.callWC c4 rfl rfl rfl rfl weak_full ?_ | refine A.callWC c5 rfl rfl rfl (by simp [AV.closedL, AV.closed, str_closedL]) (WeakL.refl _) ?_ | fail
    exact ⟨rfl, rfl, rfl⟩
theorem cEnu (W : WS) (d : Dfn) (hk : d.kind = 4) (hd : d.size ≤ 1048640) (hW : W.l.length + 8 * d.size + 4 ≤ 1099511627776) (b : Bool) (hb : b = (decide (d.parts ≠ []) && ((d.faces.length : Int) + (d.fields.length : Int) + (d.params.length : Int) == 0))) :
    WC 231 (.agg [.ptr 0 0]) [d.enc] W (wEnu d (wNeed b W)) := by
  refine WC.of (AFn.enter [] Tryz.func231 rfl rfl rfl rfl rfl (by decide) ?_)
  have hds : d.size = d.name.length + strsSize d.faces + sumSize Fld.size d.fields + strsSize d.parts + sumSize Par.size d.params + 5 := rfl
  have p1 := sumSize_length (size := fun s : Str => s.length + 1) (fun _ => by omega) d.faces
  have p2 := sumSize_length (size := Par.size) (fun d => by unfold Par.size; omega) d.params
  have p4 := sumSize_length (size := Fld.size) (fun d => by unfold Fld.size; omega) d.fields
  have p5 := sumSize_length (size := fun s : Str => s.length + 1) (fun _ => by omega) d.parts
  have p3 : strsSize d.faces = sumSize (fun s : Str => s.length + 1) d.faces + 1 := rfl
  have p6 : strsSize d.parts = sumSize (fun s : Str => s.length + 1) d.parts + 1 := rfl
  have hg := len_pos d.parts
  have q3 : (d.kind == 3) = false := by rw [hk]; rfl
  have c1 := cNeed W b
  have c2 := cName (wNeed b W) sEnum (by decide) (by rw [len_need]; omega)
  have c3 := cName (wName sEnum (wNeed b W)) d.name (by omega) (by rw [len_name, len_need]; omega)
  have c4 := cMark (wName d.name (wName sEnum (wNeed b W))) [123] (by rw [len_name, len_name, len_need]; omega)
  have tail : HCode Tryz.prog Tryz.f231.ntmps [] (bodyOf Tryz.f231) (fin [] (fun e σ1 => e = .ret (.tup []) ∧ σ1.B.take 1 = [.cells (wEnu d (wNeed b W)).cs] ∧ σ1.T.take 1 = [.len (wEnu d (wNeed b W)).l.length]))
      (argSlots 0 [.agg [.ptr 0 0], d.enc]) ⟨[.cells W.cs], [.len W.l.length]⟩ := by
    unfold wEnu
    have l4 : (wMark [123] (wName d.name (wName sEnum (wNeed b W)))).l.length = W.l.length + 3 := by rw [len_mark, len_name, len_name, len_need]
    by_cases hBfalse : decide (d.parts ≠ []) = false
    · have d1 : decide (0 < (d.parts.length : Int)) = false := by rw [hg]; exact hBfalse
      rw [hBfalse] at hb
      first | obtain rfl : b = false := hb | obtain rfl : b = ((d.faces.length : Int) + (d.fields.length : Int) + (d.params.length : Int) == 0) := hb
      repeat' first | refine .br ?_ | refine .seq ?_ | refine .rg ?_ | refine .rd ?_ | refine .block ?_ | refine .scope ?_ | refine .skip ?_ | refine .label ?_ | refine .exit ?_ | refine .ret ?_ | refine .ct ?_ | refine .cf ?_ | refine .cy ?_ | refine .cn ?_ | (refine .cond rfl ?_ ?_ <;> intro hc) | refine A.nil_seq ?_ | refine .nl ?_ | refine .dd ?_ | refine .ys ?_ | refine .no ?_ | (refine A.guard rfl ?_ ?_ <;> intro hc) | refine .lb ?_ | refine .ln ?_ | refine .ls ?_ | refine .pv ?_ | refine .ix ?_ | refine .pt ?_ | refine .pf ?_ | refine .bx ?_ | refine .al ?_ | refine .st ?_ | refine .ad ?_ | refine .sb ?_ | refine .cl ?_ | refine .ck ?_ | refine A.callWC c1 rfl rfl rfl rfl (WeakL.refl _) ?_ | refine A.callWC c2 rfl rfl rfl rfl (WeakL.refl _) ?_ | refine A.callWC c3 rfl rfl rfl rfl (WeakL.refl _) ?_ | refine A.callWC c4 rfl rfl rfl rfl weak_full ?_ | fail
      generalize hW3 : wMark [123] _ = W3 at *
      refine HCode.forK d.parts.length (fun k => [(61, .int .i64 k), (60, .int .i64 d.parts.length), (59, .slice (d.parts.map AV.str) .no), (2, .rptr (.agg [.ptr 0 0]))]) (fun k => wst ((d.parts.take k).foldl wPart W3)) (fun _ => True) ⟨rfl, by rw [← List.length_map (f := AV.str)]; rfl, rfl, rfl, trivial⟩ rfl trivial fun k hk _ => ?_
      have hlen := len_partF (d.parts.take k) W3
      by_cases h1 : k < d.parts.length
      · have d1 : decide ((k : Int) < (d.parts.length : Int)) = true := by simp [h1]
        have x1 := map_get' (f := AV.str) h1
        have hm := wsum_le (fun s : Str => s.length + 1) d.parts k h1
        have hn := fold_take' wPart h1 W3
        generalize hWk : (d.parts.take k).foldl wPart W3 = Wk at *
        cases e1 : (d.parts[k] != sTrue) with
        | false =>
          have hn2 : wPart Wk d.parts[k] = wName d.parts[k] (wNeed false Wk) := by unfold wPart; rw [e1]; rfl
          rw [hn2] at hn
          have c5 := cNeed Wk false
          have c6 := cName (wNeed false Wk) d.parts[k] (by omega) (by rw [len_need]; omega)
          repeat' first | refine .seq ?_ | refine .rg ?_ | refine .rd ?_ | refine .block ?_ | refine .scope ?_ | refine .skip ?_ | refine .label ?_ | refine .exit ?_ | refine .ret ?_ | refine .ct ?_ | refine .cf ?_ | refine .cy ?_ | refine .cn ?_ | (refine .cond rfl ?_ ?_ <;> intro hc) | refine A.nil_seq ?_ | refine .nl ?_ | refine .dd ?_ | refine .ys ?_ | refine .no ?_ | (refine A.guard rfl ?_ ?_ <;> intro hc) | refine .lb ?_ | refine .ln ?_ | refine .ls ?_ | refine .pv ?_ | refine .ix ?_ | refine .pt ?_ | refine .pf ?_ | refine .bx ?_ | refine .al ?_ | refine .st ?_ | refine .ad ?_ | refine .sb ?_ | refine .cl ?_ | refine .ck ?_ | refine A.callWC c5 rfl rfl rfl rfl (WeakL.refl _) ?_ | refine A.callWC c6 rfl rfl rfl rfl (WeakL.refl _) ?_ | fail
          exact ⟨h1, ⟨rfl, rfl, rfl, rfl, trivial⟩, by simp [belowS, AV.low, AV.lowL], wst_below _, (congrArg wst hn).symm, trivial⟩
        | true =>
          cases e2 : (d.parts[k] != sFalse) with
          | false =>
            have hn2 : wPart Wk d.parts[k] = wName d.parts[k] (wNeed false Wk) := by unfold wPart; rw [e1, e2]; rfl
            rw [hn2] at hn
            have c5 := cNeed Wk false
            have c6 := cName (wNeed false Wk) d.parts[k] (by omega) (by rw [len_need]; omega)
            repeat' first | refine .seq ?_ | refine .rg ?_ | refine .rd ?_ | refine .block ?_ | refine .scope ?_ | refine .skip ?_ | refine .label ?_ | refine .exit ?_ | refine .ret ?_ | refine .ct ?_ | refine .cf ?_ | refine .cy ?_ | refine .cn ?_ | (refine .cond rfl ?_ ?_ <;> intro hc) | refine A.nil_seq ?_ | refine .nl ?_ | refine .dd ?_ | refine .ys ?_ | refine .no ?_ | (refine A.guard rfl ?_ ?_ <;> intro hc) | refine .lb ?_ | refine .ln ?_ | refine .ls ?_ | refine .pv ?_ | refine .ix ?_ | refine .pt ?_ | refine .pf ?_ | refine .bx ?_ | refine .al ?_ | refine .st ?_ | refine .ad ?_ | refine .sb ?_ | refine .cl ?_ | refine .ck ?_ | refine A.callWC c5 rfl rfl rfl rfl (WeakL.refl _) ?_ | refine A.callWC c6 rfl rfl rfl rfl (WeakL.refl _) ?_ | fail
            exact ⟨h1, ⟨rfl, rfl, rfl, rfl, trivial⟩, by simp [belowS, AV.low, AV.lowL], wst_below _, (congrArg wst hn).symm, trivial⟩
          | true =>
            have hn2 : wPart Wk d.parts[k] = wName d.parts[k] (wNeed (d.parts[k] != sNull) Wk) := by unfold wPart; rw [e1, e2]; rfl
            rw [hn2] at hn
            have c5 := cNeed Wk (d.parts[k] != sNull)
            have c6 := cName (wNeed (d.parts[k] != sNull) Wk) d.parts[k] (by omega) (by rw [len_need]; omega)
            repeat' first | refine .seq ?_ | refine .rg ?_ | refine .rd ?_ | refine .block ?_ | refine .scope ?_ | refine .skip ?_ | refine .label ?_ | refine .exit ?_ | refine .ret ?_ | refine .ct ?_ | refine .cf ?_ | refine .cy ?_ | refine .cn ?_ | (refine .cond rfl ?_ ?_ <;> intro hc) | refine A.nil_seq ?_ | refine .nl ?_ | refine .dd ?_ | refine .ys ?_ | refine .no ?_ | (refine A.guard rfl ?_ ?_ <;> intro hc) | refine .lb ?_ | refine .ln ?_ | refine .ls ?_ | refine .pv ?_ | refine .ix ?_ | refine .pt ?_ | refine .pf ?_ | refine .bx ?_ | refine .al ?_ | refine .st ?_ | refine .ad ?_ | refine .sb ?_ | refine .cl ?_ | refine .ck ?_ | refine A.callWC c5 rfl rfl rfl rfl (WeakL.refl _) ?_ | refine A.callWC c6 rfl rfl rfl rfl (WeakL.refl _) ?_ | fail
            exact ⟨h1, ⟨rfl, rfl, rfl, rfl, trivial⟩, by simp [belowS, AV.low, AV.lowL], wst_below _, (congrArg wst hn).symm, trivial⟩
      · have d1 : decide ((k : Int) < (d.parts.length : Int)) = false := by simp; omega
        obtain rfl : k = d.parts.length := by omega
        rw [List.take_length] at *
        have c5 := cMark (d.parts.foldl wPart W3) [125] (by omega)
        repeat' first | refine .seq ?_ | refine .rg ?_ | refine .rd ?_ | refine .block ?_ | refine .scope ?_ | refine .skip ?_ | refine .label ?_ | refine .exit ?_ | refine .ret ?_ | refine .ct ?_ | refine .cf ?_ | refine .cy ?_ | refine .cn ?_ | (refine .cond rfl ?_ ?_ <;> intro hc) | refine A.nil_seq ?_ | refine .nl ?_ | refine .dd ?_ | refine .ys ?_ | refine .no ?_ | (refine A.guard rfl ?_ ?_ <;> intro hc) | refine .lb ?_ | refine .ln ?_ | refine .ls ?_ | refine .pv ?_ | refine .ix ?_ | refine .pt ?_ | refine .pf ?_ | refine .bx ?_ | refine .al ?_ | refine .st ?_ | refine .ad ?_ | refine .sb ?_ | refine .cl ?_ | refine .ck ?_ | refine A.callWC c5 rfl rfl rfl rfl weak_full ?_ | fail
        exact ⟨rfl, rfl, rfl⟩
    by_cases hBtrue : decide (d.parts ≠ []) = true
    · have d1 : decide (0 < (d.parts.length : Int)) = true := by rw [hg]; exact hBtrue
      rw [hBtrue] at hb
      first | obtain rfl : b = false := hb | obtain rfl : b = ((d.faces.length : Int) + (d.fields.length : Int) + (d.params.length : Int) == 0) := hb
      repeat' first | refine .br ?_ | refine .seq ?_ | refine .rg ?_ | refine .rd ?_ | refine .block ?_ | refine .scope ?_ | refine .skip ?_ | refine .label ?_ | refine .exit ?_ | refine .ret ?_ | refine .ct ?_ | refine .cf ?_ | refine .cy ?_ | refine .cn ?_ | (refine .cond rfl ?_ ?_ <;> intro hc) | refine A.nil_seq ?_ | refine .nl ?_ | refine .dd ?_ | refine .ys ?_ | refine .no ?_ | (refine A.guard rfl ?_ ?_ <;> intro hc) | refine .lb ?_ | refine .ln ?_ | refine .ls ?_ | refine .pv ?_ | refine .ix ?_ | refine .pt ?_ | refine .pf ?_ | refine .bx ?_ | refine .al ?_ | refine .st ?_ | refine .ad ?_ | refine .sb ?_ | refine .cl ?_ | refine .ck ?_ | refine A.callWC c1 rfl rfl rfl rfl (WeakL.refl _) ?_ | refine A.callWC c2 rfl rfl rfl rfl (WeakL.refl _) ?_ | refine A.callWC c3 rfl rfl rfl rfl (WeakL.refl _) ?_ | refine A.callWC c4 rfl rfl rfl rfl weak_full ?_ | fail
      generalize hW3 : wMark [123] _ = W3 at *
      refine HCode.forK d.parts.length (fun k => [(61, .int .i64 k), (60, .int .i64 d.parts.length), (59, .slice (d.parts.map AV.str) .no), (2, .rptr (.agg [.ptr 0 0]))]) (fun k => wst ((d.parts.take k).foldl wPart W3)) (fun _ => True) ⟨rfl, by rw [← List.length_map (f := AV.str)]; rfl, rfl, rfl, trivial⟩ rfl trivial fun k hk _ => ?_
      have hlen := len_partF (d.parts.take k) W3
      by_cases h1 : k < d.parts.length
      · have d1 : decide ((k : Int) < (d.parts.length : Int)) = true := by simp [h1]
        have x1 := map_get' (f := AV.str) h1
        have hm := wsum_le (fun s : Str => s.length + 1) d.parts k h1
        have hn := fold_take' wPart h1 W3
        generalize hWk : (d.parts.take k).foldl wPart W3 = Wk at *
        cases e1 : (d.parts[k] != sTrue) with
        | false =>
          have hn2 : wPart Wk d.parts[k] = wName d.parts[k] (wNeed false Wk) := by unfold wPart; rw [e1]; rfl
          rw [hn2] at hn
          have c5 := cNeed Wk false
          have c6 := cName (wNeed false Wk) d.parts[k] (by omega) (by rw [len_need]; omega)
          repeat' first | refine .seq ?_ | refine .rg ?_ | refine .rd ?_ | refine .block ?_ | refine .scope ?_ | refine .skip ?_ | refine .label ?_ | refine .exit ?_ | refine .ret ?_ | refine .ct ?_ | refine .cf ?_ | refine .cy ?_ | refine .cn ?_ | (refine .cond rfl ?_ ?_ <;> intro hc) | refine A.nil_seq ?_ | refine .nl ?_ | refine .dd ?_ | refine .ys ?_ | refine .no ?_ | (refine A.guard rfl ?_ ?_ <;> intro hc) | refine .lb ?_ | refine .ln ?_ | refine .ls ?_ | refine .pv ?_ | refine .ix ?_ | refine .pt ?_ | refine .pf ?_ | refine .bx ?_ | refine .al ?_ | refine .st ?_ | refine .ad ?_ | refine .sb ?_ | refine .cl ?_ | refine .ck ?_ | refine A.callWC c5 rfl rfl rfl rfl (WeakL.refl _) ?_ | refine A.callWC c6 rfl rfl rfl rfl (WeakL.refl _) ?_ | fail
          exact ⟨h1, ⟨rfl, rfl, rfl, rfl, trivial⟩, by simp [belowS, AV.low, AV.lowL], wst_below _, (congrArg wst hn).symm, trivial⟩
        | true =>
          cases e2 : (d.parts[k] != sFalse) with
          | false =>
            have hn2 : wPart Wk d.parts[k] = wName d.parts[k] (wNeed false Wk) := by unfold wPart; rw [e1, e2]; rfl
            rw [hn2] at hn
            have c5 := cNeed Wk false
            have c6 := cName (wNeed false Wk) d.parts[k] (by omega) (by rw [len_need]; omega)
            repeat' first | refine .seq ?_ | refine .rg ?_ | refine .rd ?_ | refine .block ?_ | refine .scope ?_ | refine .skip ?_ | refine .label ?_ | refine .exit ?_ | refine .ret ?_ | refine .ct ?_ | refine .cf ?_ | refine .cy ?_ | refine .cn ?_ | (refine .cond rfl ?_ ?_ <;> intro hc) | refine A.nil_seq ?_ | refine .nl ?_ | refine .dd ?_ | refine .ys ?_ | refine .no ?_ | (refine A.guard rfl ?_ ?_ <;> intro hc) | refine .lb ?_ | refine .ln ?_ | refine .ls ?_ | refine .pv ?_ | refine .ix ?_ | refine .pt ?_ | refine .pf ?_ | refine .bx ?_ | refine .al ?_ | refine .st ?_ | refine .ad ?_ | refine .sb ?_ | refine .cl ?_ | refine .ck ?_ | refine A.callWC c5 rfl rfl rfl rfl (WeakL.refl _) ?_ | refine A.callWC c6 rfl rfl rfl rfl (WeakL.refl _) ?_ | fail
            exact ⟨h1, ⟨rfl, rfl, rfl, rfl, trivial⟩, by simp [belowS, AV.low, AV.lowL], wst_below _, (congrArg wst hn).symm, trivial⟩
          | true =>
            have hn2 : wPart Wk d.parts[k] = wName d.parts[k] (wNeed (d.parts[k] != sNull) Wk) := by unfold wPart; rw [e1, e2]; rfl
            rw [hn2] at hn
            have c5 := cNeed Wk (d.parts[k] != sNull)
            have c6 := cName (wNeed (d.parts[k] != sNull) Wk) d.parts[k] (by omega) (by rw [len_need]; omega)
            repeat' first | refine .seq ?_ | refine .rg ?_ | refine .rd ?_ | refine .block ?_ | refine .scope ?_ | refine .skip ?_ | refine .label ?_ | refine .exit ?_ | refine .ret ?_ | refine .ct ?_ | refine .cf ?_ | refine .cy ?_ | refine .cn ?_ | (refine .cond rfl ?_ ?_ <;> intro hc) | refine A.nil_seq ?_ | refine .nl ?_ | refine .dd ?_ | refine .ys ?_ | refine .no ?_ | (refine A.guard rfl ?_ ?_ <;> intro hc) | refine .lb ?_ | refine .ln ?_ | refine .ls ?_ | refine .pv ?_ | refine .ix ?_ | refine .pt ?_ | refine .pf ?_ | refine .bx ?_ | refine .al ?_ | refine .st ?_ | refine .ad ?_ | refine .sb ?_ | refine .cl ?_ | refine .ck ?_ | refine A.callWC c5 rfl rfl rfl rfl (WeakL.refl _) ?_ | refine A.callWC c6 rfl rfl rfl rfl (WeakL.refl _) ?_ | fail
            exact ⟨h1, ⟨rfl, rfl, rfl, rfl, trivial⟩, by simp [belowS, AV.low, AV.lowL], wst_below _, (congrArg wst hn).symm, trivial⟩
      · have d1 : decide ((k : Int) < (d.parts.length : Int)) = false := by simp; omega
        obtain rfl : k = d.parts.length := by omega
        rw [List.take_length] at *
        have c5 := cMark (d.parts.foldl wPart W3) [125] (by omega)
        repeat' first | refine .seq ?_ | refine .rg ?_ | refine .rd ?_ | refine .block ?_ | refine .scope ?_ | refine .skip ?_ | refine .label ?_ | refine .exit ?_ | refine .ret ?_ | refine .ct ?_ | refine .cf ?_ | refine .cy ?_ | refine .cn ?_ | (refine .cond rfl ?_ ?_ <;> intro hc) | refine A.nil_seq ?_ | refine .nl ?_ | refine .dd ?_ | refine .ys ?_ | refine .no ?_ | (refine A.guard rfl ?_ ?_ <;> intro hc) | refine .lb ?_ | refine .ln ?_ | refine .ls ?_ | refine .pv ?_ | refine .ix ?_ | refine .pt ?_ | refine .pf ?_ | refine .bx ?_ | refine .al ?_ | refine .st ?_ | refine .ad ?_ | refine .sb ?_ | refine .cl ?_ | refine .ck ?_ | refine A.callWC c5 rfl rfl rfl rfl weak_full ?_ | fail
        exact ⟨rfl, rfl, rfl⟩
    exfalso
    cases h : decide (d.parts ≠ []) <;> simp_all
  exact tail
theorem cPartsD (W : WS) (d : Dfn) (hk : d.kind = 3 ∨ d.kind = 4) (hd : d.size ≤ 1048640) (hW : W.l.length + 8 * d.size + 4 ≤ 1099511627776) : WC 231 (.agg [.ptr 0 0]) [d.enc] W (wPartsD d W) := by
  have hl := lens3 d.faces d.fields d.params
  unfold wPartsD needParts
  rw [← hl]
  by_cases h3 : d.kind = 3
  · rw [if_pos h3]
    exact cUni W d h3 hd hW _ rfl
  · rw [if_neg h3]
    exact cEnu W d (by omega) hd hW _ rfl
def needInp (d : Dfn) : Bool := decide (d.params ≠ []) && decide (d.faces = [] ∧ d.fields = [] ∧ d.parts = [])
def wInp (d : Dfn) (W : WS) : WS := wMark [125] (wPars d.params (wMark [123] (wName d.name (wName sInput W))))
def wDfn (W : WS) (d : Dfn) : WS :=
  if d.kind = 1 then wObj sType d W else if d.kind = 2 then wObj sFace d W else if d.kind = 3 ∨ d.kind = 4 then wPartsD d W else if d.kind = 5 then wInp d (wNeed (needInp d) W) else wNeed false W
theorem len_inp (d : Dfn) (W : WS) : (wInp d W).l.length ≤ W.l.length + 4 * sumSize Par.size d.params + 4 := by
  have h := len_pars d.params (wMark [123] (wName d.name (wName sInput W)))
  rw [len_mark, len_name, len_name] at h
  unfold wInp
  rw [len_mark]; omega
theorem len_dfn (W : WS) (d : Dfn) : (wDfn W d).l.length ≤ W.l.length + 8 * d.size := by
  have h1 := len_obj sType d W
  have h2 := len_obj sFace d W
  have h3 := len_partsD d W
  have h4 := len_inp d (wNeed (needInp d) W)
  rw [len_need] at h4
  have h5 : d.size = d.name.length + strsSize d.faces + sumSize Fld.size d.fields + strsSize d.parts + sumSize Par.size d.params + 5 := rfl
  unfold wDfn
  repeat' split
  · exact h1
  · exact h2
  · exact h3
  · omega
  · rw [len_need]; omega
theorem ok_inp (d : Dfn) (W : WS) : (wInp d W).ok = (W.ok && (nameB d.name && d.params.all parOk)) := by
  show (wPars d.params (wMark [123] (wName d.name (wName sInput W)))).ok = _
  rw [ok_pars]
  show (((W.ok && nameB sInput) && nameB d.name) && _) = _
  rw [nm_sInput, Bool.and_true, Bool.and_assoc]
theorem ok_dfn (W : WS) (d : Dfn) : (wDfn W d).ok = (W.ok && dfnOk d) := by
  unfold wDfn dfnOk
  by_cases h1 : d.kind = 1
  · rw [if_pos h1, if_pos (show d.kind = 1 ∨ d.kind = 2 from .inl h1), ok_obj _ nm_sType]
  by_cases h2 : d.kind = 2
  · rw [if_neg h1, if_pos h2, if_pos (show d.kind = 1 ∨ d.kind = 2 from .inr h2), ok_obj _ nm_sFace]
  rw [if_neg h1, if_neg h2, if_neg (show ¬(d.kind = 1 ∨ d.kind = 2) by omega)]
  by_cases h3 : d.kind = 3
  · rw [if_pos (show d.kind = 3 ∨ d.kind = 4 from .inl h3), if_pos h3]
    unfold wPartsD
    rw [if_pos h3, ok_uni]
    show ((W.ok && needParts d) && _) = _
    unfold needParts
    simp only [Bool.and_assoc]
  by_cases h4 : d.kind = 4
  · rw [if_pos (show d.kind = 3 ∨ d.kind = 4 from .inr h4), if_neg h3, if_pos h4]
    unfold wPartsD
    rw [if_neg h3, ok_enu]
    show ((W.ok && needParts d) && _) = _
    unfold needParts
    simp only [Bool.and_assoc]
  rw [if_neg (show ¬(d.kind = 3 ∨ d.kind = 4) by omega), if_neg h3, if_neg h4]
  by_cases h5 : d.kind = 5
  · rw [if_pos h5, if_pos h5, ok_inp]
    show ((W.ok && needInp d) && _) = _
    unfold needInp
    simp only [Bool.and_assoc]
  · rw [if_neg h5, if_neg h5]
    rfl
theorem cDfn (W : WS) (d : Dfn) (hd : d.size ≤ 1048640) (ho : d.ok) (hW : W.l.length + 8 * d.size + 4 ≤ 1099511627776) : WC 213 (.agg [.ptr 0 0]) [d.enc] W (wDfn W d) := by
  refine WC.of (AFn.enter [] Tryz.func213 rfl rfl rfl rfl rfl (by decide) ?_)
  have hds : d.size = d.name.length + strsSize d.faces + sumSize Fld.size d.fields + strsSize d.parts + sumSize Par.size d.params + 5 := rfl
  have p1 := sumSize_length (size := fun s : Str => s.length + 1) (fun _ => by omega) d.faces
  have p4 := sumSize_length (size := Fld.size) (fun d => by unfold Fld.size; omega) d.fields
  have p5 := sumSize_length (size := fun s : Str => s.length + 1) (fun _ => by omega) d.parts
  have p3 : strsSize d.faces = sumSize (fun s : Str => s.length + 1) d.faces + 1 := rfl
  have p6 : strsSize d.parts = sumSize (fun s : Str => s.length + 1) d.parts + 1 := rfl
  unfold wDfn
  by_cases h1 : d.kind = 1
  · have q1 : (d.kind == 1) = true := by rw [h1]; rfl
    have c1 := cObj W sType d (by decide) hd ho hW
    rw [if_pos h1]
    repeat' first | refine .br ?_ | refine .seq ?_ | refine .rg ?_ | refine .rd ?_ | refine .block ?_ | refine .scope ?_ | refine .skip ?_ | refine .label ?_ | refine .exit ?_ | refine .ret ?_ | refine .ct ?_ | refine .cf ?_ | refine .cy ?_ | refine .cn ?_ | (refine .cond rfl ?_ ?_ <;> intro hc) | refine A.nil_seq ?_ | refine .nl ?_ | refine .dd ?_ | refine .ys ?_ | refine .no ?_ | (refine A.guard rfl ?_ ?_ <;> intro hc) | refine .lb ?_ | refine .ln ?_ | refine .ls ?_ | refine .pv ?_ | refine .ix ?_ | refine .pt ?_ | refine .pf ?_ | refine .bx ?_ | refine .al ?_ | refine .st ?_ | refine .ad ?_ | refine .sb ?_ | refine .mf ?_ | refine .cl ?_ | refine .cw ?_ | refine .ck ?_ | refine A.callWC c1 rfl rfl rfl (by simp [AV.closedL, AV.closed, Dfn.closed]) (WeakL.refl _) ?_ | fail
    exact ⟨rfl, rfl, rfl⟩
  have q1 : (d.kind == 1) = false := by simp [h1]
  rw [if_neg h1]
  by_cases h2 : d.kind = 2
  · have q2 : (d.kind == 2) = true := by rw [h2]; rfl
    have c1 := cObj W sFace d (by decide) hd ho hW
    rw [if_pos h2]
    repeat' first | refine .br ?_ | refine .seq ?_ | refine .rg ?_ | refine .rd ?_ | refine .block ?_ | refine .scope ?_ | refine .skip ?_ | refine .label ?_ | refine .exit ?_ | refine .ret ?_ | refine .ct ?_ | refine .cf ?_ | refine .cy ?_ | refine .cn ?_ | (refine .cond rfl ?_ ?_ <;> intro hc) | refine A.nil_seq ?_ | refine .nl ?_ | refine .dd ?_ | refine .ys ?_ | refine .no ?_ | (refine A.guard rfl ?_ ?_ <;> intro hc) | refine .lb ?_ | refine .ln ?_ | refine .ls ?_ | refine .pv ?_ | refine .ix ?_ | refine .pt ?_ | refine .pf ?_ | refine .bx ?_ | refine .al ?_ | refine .st ?_ | refine .ad ?_ | refine .sb ?_ | refine .mf ?_ | refine .cl ?_ | refine .cw ?_ | refine .ck ?_ | refine A.callWC c1 rfl rfl rfl (by simp [AV.closedL, AV.closed, Dfn.closed]) (WeakL.refl _) ?_ | fail
    exact ⟨rfl, rfl, rfl⟩
  have q2 : (d.kind == 2) = false := by simp [h2]
  rw [if_neg h2]
  by_cases h3 : d.kind = 3
  · have q3 : (d.kind == 3) = true := by rw [h3]; rfl
    have c1 := cPartsD W d (.inl h3) hd hW
    rw [if_pos (.inl h3)]
    repeat' first | refine .br ?_ | refine .seq ?_ | refine .rg ?_ | refine .rd ?_ | refine .block ?_ | refine .scope ?_ | refine .skip ?_ | refine .label ?_ | refine .exit ?_ | refine .ret ?_ | refine .ct ?_ | refine .cf ?_ | refine .cy ?_ | refine .cn ?_ | (refine .cond rfl ?_ ?_ <;> intro hc) | refine A.nil_seq ?_ | refine .nl ?_ | refine .dd ?_ | refine .ys ?_ | refine .no ?_ | (refine A.guard rfl ?_ ?_ <;> intro hc) | refine .lb ?_ | refine .ln ?_ | refine .ls ?_ | refine .pv ?_ | refine .ix ?_ | refine .pt ?_ | refine .pf ?_ | refine .bx ?_ | refine .al ?_ | refine .st ?_ | refine .ad ?_ | refine .sb ?_ | refine .mf ?_ | refine .cl ?_ | refine .cw ?_ | refine .ck ?_ | refine A.callWC c1 rfl rfl rfl (by simp [AV.closedL, AV.closed, Dfn.closed]) (WeakL.refl _) ?_ | fail
    exact ⟨rfl, rfl, rfl⟩
  have q3 : (d.kind == 3) = false := by simp [h3]
  by_cases h4 : d.kind = 4
  · have q4 : (d.kind == 4) = true := by rw [h4]; rfl
    have c1 := cPartsD W d (.inr h4) hd hW
    rw [if_pos (.inr h4)]
    repeat' first | refine .br ?_ | refine .seq ?_ | refine .rg ?_ | refine .rd ?_ | refine .block ?_ | refine .scope ?_ | refine .skip ?_ | refine .label ?_ | refine .exit ?_ | refine .ret ?_ | refine .ct ?_ | refine .cf ?_ | refine .cy ?_ | refine .cn ?_ | (refine .cond rfl ?_ ?_ <;> intro hc) | refine A.nil_seq ?_ | refine .nl ?_ | refine .dd ?_ | refine .ys ?_ | refine .no ?_ | (refine A.guard rfl ?_ ?_ <;> intro hc) | refine .lb ?_ | refine .ln ?_ | refine .ls ?_ | refine .pv ?_ | refine .ix ?_ | refine .pt ?_ | refine .pf ?_ | refine .bx ?_ | refine .al ?_ | refine .st ?_ | refine .ad ?_ | refine .sb ?_ | refine .mf ?_ | refine .cl ?_ | refine .cw ?_ | refine .ck ?_ | refine A.callWC c1 rfl rfl rfl (by simp [AV.closedL, AV.closed, Dfn.closed]) (WeakL.refl _) ?_ | fail
    exact ⟨rfl, rfl, rfl⟩
  have q4 : (d.kind == 4) = false := by simp [h4]
  rw [if_neg (fun h => h.elim h3 h4)]
  by_cases h5 : d.kind = 5
  · have q5 : (d.kind == 5) = true := by rw [h5]; rfl
    rw [if_pos h5]
    have hg := len_pos d.params
    unfold needInp
    rw [← lens3 d.faces d.fields d.parts]
    cases hB : decide (d.params ≠ []) with
    | false =>
      have d1 : decide (0 < (d.params.length : Int)) = false := by rw [hg]; exact hB
      have c1 := cNeed W false
      have c2 := cName (wNeed false W) sInput (by decide) (by rw [len_need]; omega)
      have c3 := cName (wName sInput (wNeed false W)) d.name (by omega) (by rw [len_name, len_need]; omega)
      have c4 := cMark (wName d.name (wName sInput (wNeed false W))) [123] (by rw [len_name, len_name, len_need]; omega)
      have c5 := cPars (wMark [123] (wName d.name (wName sInput (wNeed false W)))) d.params (by omega) ho.2 (by rw [len_mark, len_name, len_name, len_need]; omega)
      have l5 := len_pars d.params (wMark [123] (wName d.name (wName sInput (wNeed false W))))
      rw [len_mark, len_name, len_name, len_need] at l5
      have c6 := cMark (wPars d.params (wMark [123] (wName d.name (wName sInput (wNeed false W))))) [125] (by omega)
      repeat' first | refine .br ?_ | refine .seq ?_ | refine .rg ?_ | refine .rd ?_ | refine .block ?_ | refine .scope ?_ | refine .skip ?_ | refine .label ?_ | refine .exit ?_ | refine .ret ?_ | refine .ct ?_ | refine .cf ?_ | refine .cy ?_ | refine .cn ?_ | (refine .cond rfl ?_ ?_ <;> intro hc) | refine A.nil_seq ?_ | refine .nl ?_ | refine .dd ?_ | refine .ys ?_ | refine .no ?_ | (refine A.guard rfl ?_ ?_ <;> intro hc) | refine .lb ?_ | refine .ln ?_ | refine .ls ?_ | refine .pv ?_ | refine .ix ?_ | refine .pt ?_ | refine .pf ?_ | refine .bx ?_ | refine .al ?_ | refine .st ?_ | refine .ad ?_ | refine .sb ?_ | refine .mf ?_ | refine .cl ?_ | refine .cw ?_ | refine .ck ?_ | refine A.callWC c1 rfl rfl rfl rfl (WeakL.refl _) ?_ | refine A.callWC c2 rfl rfl rfl rfl (WeakL.refl _) ?_ | refine A.callWC c3 rfl rfl rfl rfl (WeakL.refl _) ?_ | refine A.callWC c4 rfl rfl rfl rfl weak_full ?_ | refine A.callWC c5 rfl rfl rfl (by simp [AV.closedL, AV.closed, Par.closedL]) (WeakL.refl _) ?_ | refine A.callWC c6 rfl rfl rfl rfl weak_full ?_ | fail
      exact ⟨rfl, rfl, rfl⟩
    | true =>
      have d1 : decide (0 < (d.params.length : Int)) = true := by rw [hg]; exact hB
      generalize hb : ((d.faces.length : Int) + (d.fields.length : Int) + (d.parts.length : Int) == 0) = b
      have c1 := cNeed W b
      have c2 := cName (wNeed b W) sInput (by decide) (by rw [len_need]; omega)
      have c3 := cName (wName sInput (wNeed b W)) d.name (by omega) (by rw [len_name, len_need]; omega)
      have c4 := cMark (wName d.name (wName sInput (wNeed b W))) [123] (by rw [len_name, len_name, len_need]; omega)
      have c5 := cPars (wMark [123] (wName d.name (wName sInput (wNeed b W)))) d.params (by omega) ho.2 (by rw [len_mark, len_name, len_name, len_need]; omega)
      have l5 := len_pars d.params (wMark [123] (wName d.name (wName sInput (wNeed b W))))
      rw [len_mark, len_name, len_name, len_need] at l5
      have c6 := cMark (wPars d.params (wMark [123] (wName d.name (wName sInput (wNeed b W))))) [125] (by omega)
      subst hb
      repeat' first | refine .br ?_ | refine .seq ?_ | refine .rg ?_ | refine .rd ?_ | refine .block ?_ | refine .scope ?_ | refine .skip ?_ | refine .label ?_ | refine .exit ?_ | refine .ret ?_ | refine .ct ?_ | refine .cf ?_ | refine .cy ?_ | refine .cn ?_ | (refine .cond rfl ?_ ?_ <;> intro hc) | refine A.nil_seq ?_ | refine .nl ?_ | refine .dd ?_ | refine .ys ?_ | refine .no ?_ | (refine A.guard rfl ?_ ?_ <;> intro hc) | refine .lb ?_ | refine .ln ?_ | refine .ls ?_ | refine .pv ?_ | refine .ix ?_ | refine .pt ?_ | refine .pf ?_ | refine .bx ?_ | refine .al ?_ | refine .st ?_ | refine .ad ?_ | refine .sb ?_ | refine .mf ?_ | refine .cl ?_ | refine .cw ?_ | refine .ck ?_ | refine A.callWC c1 rfl rfl rfl rfl (WeakL.refl _) ?_ | refine A.callWC c2 rfl rfl rfl rfl (WeakL.refl _) ?_ | refine A.callWC c3 rfl rfl rfl rfl (WeakL.refl _) ?_ | refine A.callWC c4 rfl rfl rfl rfl weak_full ?_ | refine A.callWC c5 rfl rfl rfl (by simp [AV.closedL, AV.closed, Par.closedL]) (WeakL.refl _) ?_ | refine A.callWC c6 rfl rfl rfl rfl weak_full ?_ | fail
      exact ⟨rfl, rfl, rfl⟩
  have q5 : (d.kind == 5) = false := by simp [h5]
  rw [if_neg h5]
  have c1 := cNeed W false
  repeat' first | refine .br ?_ | refine .seq ?_ | refine .rg ?_ | refine .rd ?_ | refine .block ?_ | refine .scope ?_ | refine .skip ?_ | refine .label ?_ | refine .exit ?_ | refine .ret ?_ | refine .ct ?_ | refine .cf ?_ | refine .cy ?_ | refine .cn ?_ | (refine .cond rfl ?_ ?_ <;> intro hc) | refine A.nil_seq ?_ | refine .nl ?_ | refine .dd ?_ | refine .ys ?_ | refine .no ?_ | (refine A.guard rfl ?_ ?_ <;> intro hc) | refine .lb ?_ | refine .ln ?_ | refine .ls ?_ | refine .pv ?_ | refine .ix ?_ | refine .pt ?_ | refine .pf ?_ | refine .bx ?_ | refine .al ?_ | refine .st ?_ | refine .ad ?_ | refine .sb ?_ | refine .mf ?_ | refine .cl ?_ | refine .cw ?_ | refine .ck ?_ | refine A.callWC c1 rfl rfl rfl rfl (WeakL.refl _) ?_ | fail
  exact ⟨rfl, rfl, rfl⟩
theorem cNew : AFn Tryz.prog 210 [] ⟨[], []⟩ (fun e σ => e = .ret (.ptr 0 0) ∧ σ = ⟨[.cells (WS.mk [] true).cs], [.len 0]⟩) := by
  refine AFn.enter [0] Tryz.func210 rfl rfl rfl rfl rfl (by decide) ?_
  repeat' first | refine HCode.adoptB 0 0 true 2 rfl rfl rfl rfl rfl rfl rfl rfl ?_ | refine .seq ?_ | refine .rg ?_ | refine .rd ?_ | refine .block ?_ | refine .scope ?_ | refine .skip ?_ | refine .label ?_ | refine .exit ?_ | refine .ret ?_ | refine .ct ?_ | refine .cf ?_ | refine .cy ?_ | refine .cn ?_ | (refine .cond rfl ?_ ?_ <;> intro hc) | refine A.nil_seq ?_ | refine .nl ?_ | refine .dd ?_ | refine .ys ?_ | refine .no ?_ | (refine A.guard rfl ?_ ?_ <;> intro hc) | refine .lb ?_ | refine .ln ?_ | refine .ls ?_ | refine .pv ?_ | refine .ix ?_ | refine .pt ?_ | refine .pf ?_ | refine .bx ?_ | refine .al ?_ | refine .st ?_ | refine .ad ?_ | refine .sb ?_ | refine .mf ?_ | refine .cl ?_ | refine .cw ?_ | refine .ck ?_ | fail
  exact ⟨rfl, rfl⟩
def wSchM (s : Sch) (W : WS) : WS := if s.mutation = [] then W else wName s.mutation (wMark [58] (wName sMut W))
def wSch0 (s : Sch) : WS := wMark [125] (wSchM s (wName s.query (wMark [58] (wName sQuery (wMark [123] (wName sSchema ⟨[], true⟩))))))
def wSch (s : Sch) : WS := s.defs.foldl wDfn (wSch0 s)
theorem len_schM (s : Sch) (W : WS) : (wSchM s W).l.length ≤ W.l.length + 3 := by
  unfold wSchM
  split
  · omega
  · rw [len_name, len_mark, len_name]; omega
theorem len_sch0 (s : Sch) : (wSch0 s).l.length ≤ 9 := by
  have h := len_schM s (wName s.query (wMark [58] (wName sQuery (wMark [123] (wName sSchema ⟨[], true⟩)))))
  rw [len_name, len_mark, len_name, len_mark, len_name] at h
  simp only [List.length_nil] at h
  unfold wSch0
  rw [len_mark]; omega
theorem ok_sch (s : Sch) : (wSch s).ok = sdlOk s := by
  unfold wSch sdlOk
  rw [fold_ok wDfn dfnOk ok_dfn]
  have h0 : (wSch0 s).ok = (nameB s.query && (s.mutation == [] || nameB s.mutation)) := by
    show (wSchM s (wName s.query (wMark [58] (wName sQuery (wMark [123] (wName sSchema ⟨[], true⟩)))))).ok = _
    have h1 : (wName s.query (wMark [58] (wName sQuery (wMark [123] (wName sSchema ⟨[], true⟩))))).ok = nameB s.query := by
      show (((true && nameB sSchema) && nameB sQuery) && nameB s.query) = _
      rw [nm_sSchema, nm_sQuery]; rfl
    unfold wSchM
    by_cases h : s.mutation = []
    · rw [if_pos h, h1, h]; simp
    · rw [if_neg h]
      show (((wName s.query (wMark [58] (wName sQuery (wMark [123] (wName sSchema ⟨[], true⟩))))).ok && nameB sMut) && nameB s.mutation) = _
      rw [h1, nm_sMut, show (s.mutation == []) = false from beq_eq_false_iff_ne.2 h, Bool.false_or, Bool.and_true]
  rw [h0, Bool.and_assoc]
theorem len_dfns (l : List Dfn) (W : WS) : (l.foldl wDfn W).l.length ≤ W.l.length + 8 * sumSize Dfn.size l := by
  have := fold_len wDfn (fun m => 8 * m.size) len_dfn l W
  rwa [sum_mul] at this
theorem sTokens (s : Sch) (hs : s.size ≤ 1048640) (ho : s.ok) : PFn Tryz.prog 179 [s.enc] (.tup [.slice ((wSch s).l.map Tkn.enc) .no, .bool (wSch s).ok]) := by
  refine AFn.plain (by simp [AV.closed, AV.closedL, Tkn.closedL]) (by simp [AV.closedL, Sch.closed]) (AFn.enter [2, 3] Tryz.func179 rfl rfl rfl rfl rfl (by decide) ?_)
  have hss : s.size = sumSize Dfn.size s.defs + s.query.length + s.mutation.length + 4 := rfl
  have hL := sumSize_length (size := Dfn.size) (fun d => by unfold Dfn.size; omega) s.defs
  have hll : (s.defs.map Dfn.enc).length = s.defs.length := List.length_map ..
  have c0 := cNew
  have c1 := cName ⟨[], true⟩ sSchema (by decide) (by decide)
  have c2 := cMark (wName sSchema ⟨[], true⟩) [123] (by rw [len_name]; decide)
  have c3 := cName (wMark [123] (wName sSchema ⟨[], true⟩)) sQuery (by decide) (by rw [len_mark, len_name]; decide)
  have c4 := cMark (wName sQuery (wMark [123] (wName sSchema ⟨[], true⟩))) [58] (by rw [len_name, len_mark, len_name]; decide)
  have c5 := cName (wMark [58] (wName sQuery (wMark [123] (wName sSchema ⟨[], true⟩)))) s.query (by omega) (by rw [len_mark, len_name, len_mark, len_name]; decide)
  have l5 : (wName s.query (wMark [58] (wName sQuery (wMark [123] (wName sSchema ⟨[], true⟩))))).l.length = 5 := by rw [len_name, len_mark, len_name, len_mark, len_name]; rfl
  have hW0 : wSch0 s = wMark [125] (wSchM s (wName s.query (wMark [58] (wName sQuery (wMark [123] (wName sSchema ⟨[], true⟩)))))) := rfl
  have l0 := len_sch0 s
  unfold wSch
  generalize hW5 : wName s.query (wMark [58] (wName sQuery (wMark [123] (wName sSchema ⟨[], true⟩)))) = W5 at *
  have c6 := cName W5 sMut (by decide) (by omega)
  have c7 := cMark (wName sMut W5) [58] (by rw [len_name]; omega)
  have c8 := cName (wMark [58] (wName sMut W5)) s.mutation (by omega) (by rw [len_mark, len_name]; omega)
  by_cases hfalse : (s.mutation != []) = false
  · have hW1 : wSch0 s = wMark [125] _ := hW0.trans (congrArg (wMark [125]) (if_pos (by simpa using hfalse)))
    have lm := len_schM s W5
    have c9 := cMark (wSchM s W5) [125] (by omega)
    rw [show wSchM s W5 = _ from if_pos (by simpa using hfalse)] at c9
    generalize hWa : wMark [125] _ = Wa at c9 hW1
    rw [hW1] at l0 ⊢
    repeat' first | refine .br ?_ | refine .seq ?_ | refine .rg ?_ | refine .rd ?_ | refine .block ?_ | refine .scope ?_ | refine .skip ?_ | refine .label ?_ | refine .exit ?_ | refine .ret ?_ | refine .ct ?_ | refine .cf ?_ | refine .cy ?_ | refine .cn ?_ | (refine .cond rfl ?_ ?_ <;> intro hc) | refine A.nil_seq ?_ | refine .nl ?_ | refine .dd ?_ | refine .ys ?_ | refine .no ?_ | (refine A.guard rfl ?_ ?_ <;> intro hc) | refine .lb ?_ | refine .ln ?_ | refine .ls ?_ | refine .pv ?_ | refine .ix ?_ | refine .pt ?_ | refine .pf ?_ | refine .bx ?_ | refine .al ?_ | refine .st ?_ | refine .ad ?_ | refine .sb ?_ | refine .mf ?_ | refine .cl ?_ | refine .cw ?_ | refine .ck ?_ | refine A.callNB c0 rfl rfl rfl (WeakL.refl _) rfl rfl ?_ | refine A.nilPtr rfl ?_ | refine A.callWC c1 rfl rfl rfl rfl (WeakL.refl _) ?_ | refine A.callWC c2 rfl rfl rfl rfl weak_full ?_ | refine A.callWC c3 rfl rfl rfl rfl (WeakL.refl _) ?_ | refine A.callWC c4 rfl rfl rfl rfl weak_full ?_ | refine A.callWC c5 rfl rfl rfl rfl (WeakL.refl _) ?_ | refine A.callWC c6 rfl rfl rfl rfl (WeakL.refl _) ?_ | refine A.callWC c7 rfl rfl rfl rfl weak_full ?_ | refine A.callWC c8 rfl rfl rfl rfl (WeakL.refl _) ?_ | refine A.callWC c9 rfl rfl rfl rfl weak_full ?_ | fail
    refine HCode.forK s.defs.length (fun k => [(50, .int .i64 k), (49, .int .i64 s.defs.length), (48, .slice (s.defs.map Dfn.enc) .no), (4, .ptr 1 0)]) (fun k => wst2 ((s.defs.take k).foldl wDfn Wa)) (fun _ => True) ⟨rfl, by rw [← hll]; rfl, rfl, rfl, trivial⟩ rfl trivial fun k hk _ => ?_
    have hlen := len_dfns (s.defs.take k) Wa
    by_cases h1 : k < s.defs.length
    · have d1 : decide ((k : Int) < (s.defs.length : Int)) = true := by simp [h1]
      have x1 := map_get' (f := Dfn.enc) h1
      have hm := wsum_le Dfn.size s.defs k h1
      have hn := fold_take' wDfn h1 Wa
      have hdo := ho s.defs[k] (List.getElem_mem h1)
      generalize hWk : (s.defs.take k).foldl wDfn Wa = Wk at *
      have c10 := cDfn Wk s.defs[k] (by omega) hdo (by omega)
      repeat' first | refine .seq ?_ | refine .rg ?_ | refine .rd ?_ | refine .block ?_ | refine .scope ?_ | refine .skip ?_ | refine .label ?_ | refine .exit ?_ | refine .ret ?_ | refine .ct ?_ | refine .cf ?_ | refine .cy ?_ | refine .cn ?_ | (refine .cond rfl ?_ ?_ <;> intro hc) | refine A.nil_seq ?_ | refine .nl ?_ | refine .dd ?_ | refine .ys ?_ | refine .no ?_ | (refine A.guard rfl ?_ ?_ <;> intro hc) | refine .lb ?_ | refine .ln ?_ | refine .ls ?_ | refine .pv ?_ | refine .ix ?_ | refine .pt ?_ | refine .pf ?_ | refine .bx ?_ | refine .al ?_ | refine .st ?_ | refine .ad ?_ | refine .sb ?_ | refine .mf ?_ | refine .cl ?_ | refine .cw ?_ | refine .ck ?_ | refine A.callWC c10 rfl rfl rfl (by simp [AV.closedL, AV.closed, Dfn.closed]) (WeakL.refl _) ?_ | fail
      exact ⟨h1, ⟨rfl, rfl, rfl, rfl, trivial⟩, by simp [belowS, AV.low], wst_below2 _, (congrArg wst2 hn).symm, trivial⟩
    · have d1 : decide ((k : Int) < (s.defs.length : Int)) = false := by simp; omega
      obtain rfl : k = s.defs.length := by omega
      rw [List.take_length] at *
      repeat' first | refine .seq ?_ | refine .rg ?_ | refine .rd ?_ | refine .block ?_ | refine .scope ?_ | refine .skip ?_ | refine .label ?_ | refine .exit ?_ | refine .ret ?_ | refine .ct ?_ | refine .cf ?_ | refine .cy ?_ | refine .cn ?_ | (refine .cond rfl ?_ ?_ <;> intro hc) | refine A.nil_seq ?_ | refine .nl ?_ | refine .dd ?_ | refine .ys ?_ | refine .no ?_ | (refine A.guard rfl ?_ ?_ <;> intro hc) | refine .lb ?_ | refine .ln ?_ | refine .ls ?_ | refine .pv ?_ | refine .ix ?_ | refine .pt ?_ | refine .pf ?_ | refine .bx ?_ | refine .al ?_ | refine .st ?_ | refine .ad ?_ | refine .sb ?_ | refine .mf ?_ | refine .cl ?_ | refine .cw ?_ | refine .ck ?_ | refine A.nilPtr rfl ?_ | fail
      exact ⟨_, rfl, Weak.tup (WeakL.cons (Weak.no (WeakL.refl _)) (WeakL.refl _))⟩
  by_cases htrue : (s.mutation != []) = true
  · have hW1 : wSch0 s = wMark [125] _ := hW0.trans (congrArg (wMark [125]) (if_neg (by simpa using htrue)))
    have lm := len_schM s W5
    have c9 := cMark (wSchM s W5) [125] (by omega)
    rw [show wSchM s W5 = _ from if_neg (by simpa using htrue)] at c9
    generalize hWa : wMark [125] _ = Wa at c9 hW1
    rw [hW1] at l0 ⊢
    repeat' first | refine .br ?_ | refine .seq ?_ | refine .rg ?_ | refine .rd ?_ | refine .block ?_ | refine .scope ?_ | refine .skip ?_ | refine .label ?_ | refine .exit ?_ | refine .ret ?_ | refine .ct ?_ | refine .cf ?_ | refine .cy ?_ | refine .cn ?_ | (refine .cond rfl ?_ ?_ <;> intro hc) | refine A.nil_seq ?_ | refine .nl ?_ | refine .dd ?_ | refine .ys ?_ | refine .no ?_ | (refine A.guard rfl ?_ ?_ <;> intro hc) | refine .lb ?_ | refine .ln ?_ | refine .ls ?_ | refine .pv ?_ | refine .ix ?_ | refine .pt ?_ | refine .pf ?_ | refine .bx ?_ | refine .al ?_ | refine .st ?_ | refine .ad ?_ | refine .sb ?_ | refine .mf ?_ | refine .cl ?_ | refine .cw ?_ | refine .ck ?_ | refine A.callNB c0 rfl rfl rfl (WeakL.refl _) rfl rfl ?_ | refine A.nilPtr rfl ?_ | refine A.callWC c1 rfl rfl rfl rfl (WeakL.refl _) ?_ | refine A.callWC c2 rfl rfl rfl rfl weak_full ?_ | refine A.callWC c3 rfl rfl rfl rfl (WeakL.refl _) ?_ | refine A.callWC c4 rfl rfl rfl rfl weak_full ?_ | refine A.callWC c5 rfl rfl rfl rfl (WeakL.refl _) ?_ | refine A.callWC c6 rfl rfl rfl rfl (WeakL.refl _) ?_ | refine A.callWC c7 rfl rfl rfl rfl weak_full ?_ | refine A.callWC c8 rfl rfl rfl rfl (WeakL.refl _) ?_ | refine A.callWC c9 rfl rfl rfl rfl weak_full ?_ | fail
    refine HCode.forK s.defs.length (fun k => [(50, .int .i64 k), (49, .int .i64 s.defs.length), (48, .slice (s.defs.map Dfn.enc) .no), (4, .ptr 1 0)]) (fun k => wst2 ((s.defs.take k).foldl wDfn Wa)) (fun _ => True) ⟨rfl, by rw [← hll]; rfl, rfl, rfl, trivial⟩ rfl trivial fun k hk _ => ?_
    have hlen := len_dfns (s.defs.take k) Wa
    by_cases h1 : k < s.defs.length
    · have d1 : decide ((k : Int) < (s.defs.length : Int)) = true := by simp [h1]
      have x1 := map_get' (f := Dfn.enc) h1
      have hm := wsum_le Dfn.size s.defs k h1
      have hn := fold_take' wDfn h1 Wa
      have hdo := ho s.defs[k] (List.getElem_mem h1)
      generalize hWk : (s.defs.take k).foldl wDfn Wa = Wk at *
      have c10 := cDfn Wk s.defs[k] (by omega) hdo (by omega)
      repeat' first | refine .seq ?_ | refine .rg ?_ | refine .rd ?_ | refine .block ?_ | refine .scope ?_ | refine .skip ?_ | refine .label ?_ | refine .exit ?_ | refine .ret ?_ | refine .ct ?_ | refine .cf ?_ | refine .cy ?_ | refine .cn ?_ | (refine .cond rfl ?_ ?_ <;> intro hc) | refine A.nil_seq ?_ | refine .nl ?_ | refine .dd ?_ | refine .ys ?_ | refine .no ?_ | (refine A.guard rfl ?_ ?_ <;> intro hc) | refine .lb ?_ | refine .ln ?_ | refine .ls ?_ | refine .pv ?_ | refine .ix ?_ | refine .pt ?_ | refine .pf ?_ | refine .bx ?_ | refine .al ?_ | refine .st ?_ | refine .ad ?_ | refine .sb ?_ | refine .mf ?_ | refine .cl ?_ | refine .cw ?_ | refine .ck ?_ | refine A.callWC c10 rfl rfl rfl (by simp [AV.closedL, AV.closed, Dfn.closed]) (WeakL.refl _) ?_ | fail
      exact ⟨h1, ⟨rfl, rfl, rfl, rfl, trivial⟩, by simp [belowS, AV.low], wst_below2 _, (congrArg wst2 hn).symm, trivial⟩
    · have d1 : decide ((k : Int) < (s.defs.length : Int)) = false := by simp; omega
      obtain rfl : k = s.defs.length := by omega
      rw [List.take_length] at *
      repeat' first | refine .seq ?_ | refine .rg ?_ | refine .rd ?_ | refine .block ?_ | refine .scope ?_ | refine .skip ?_ | refine .label ?_ | refine .exit ?_ | refine .ret ?_ | refine .ct ?_ | refine .cf ?_ | refine .cy ?_ | refine .cn ?_ | (refine .cond rfl ?_ ?_ <;> intro hc) | refine A.nil_seq ?_ | refine .nl ?_ | refine .dd ?_ | refine .ys ?_ | refine .no ?_ | (refine A.guard rfl ?_ ?_ <;> intro hc) | refine .lb ?_ | refine .ln ?_ | refine .ls ?_ | refine .pv ?_ | refine .ix ?_ | refine .pt ?_ | refine .pf ?_ | refine .bx ?_ | refine .al ?_ | refine .st ?_ | refine .ad ?_ | refine .sb ?_ | refine .mf ?_ | refine .cl ?_ | refine .cw ?_ | refine .ck ?_ | refine A.nilPtr rfl ?_ | fail
      exact ⟨_, rfl, Weak.tup (WeakL.cons (Weak.no (WeakL.refl _)) (WeakL.refl _))⟩
  exfalso
  cases h : (s.mutation != []) <;> simp_all
theorem wSdl (s : Sch) (hs : s.size ≤ 1048640) (ho : s.ok) : PFn Tryz.prog 115 [s.enc] (.bool (sdlOk s)) := by
  have h := sTokens s hs ho
  rw [ok_sch] at h
  refine AFn.plain rfl (by simp [AV.closedL, Sch.closed]) (AFn.enter [2] Tryz.func115 rfl rfl rfl rfl rfl (by decide) ?_)
  repeat' first | refine .br ?_ | refine .seq ?_ | refine .rg ?_ | refine .rd ?_ | refine .block ?_ | refine .scope ?_ | refine .skip ?_ | refine .label ?_ | refine .exit ?_ | refine .ret ?_ | refine .ct ?_ | refine .cf ?_ | refine .cy ?_ | refine .cn ?_ | (refine .cond rfl ?_ ?_ <;> intro hc) | refine A.nil_seq ?_ | refine .nl ?_ | refine .dd ?_ | refine .ys ?_ | refine .no ?_ | (refine A.guard rfl ?_ ?_ <;> intro hc) | refine .lb ?_ | refine .ln ?_ | refine .ls ?_ | refine .pv ?_ | refine .ix ?_ | refine .pt ?_ | refine .pf ?_ | refine .bx ?_ | refine .al ?_ | refine .st ?_ | refine .ad ?_ | refine .sb ?_ | refine .mf ?_ | refine .cl ?_ | refine .cw ?_ | refine .ck ?_ | fail
  exact Fin.ret1 rfl (Weak.refl _)
theorem wNamed1 (s : Sch) (n : Str) (hs : s.size ≤ 1048640) : PFn Tryz.prog 119 [.str n, .rptr s.enc] (.bool (kindB s n [0])) := by
  have h := dKind s n [0] (by omega) (by decide)
  refine AFn.plain rfl (by simp [AV.closedL, AV.closed, Sch.closed]) (AFn.enter [3] Tryz.func119 rfl rfl rfl rfl rfl (by decide) ?_)
  repeat' first | refine .br ?_ | refine .seq ?_ | refine .rg ?_ | refine .rd ?_ | refine .block ?_ | refine .scope ?_ | refine .skip ?_ | refine .label ?_ | refine .exit ?_ | refine .ret ?_ | refine .ct ?_ | refine .cf ?_ | refine .cy ?_ | refine .cn ?_ | (refine .cond rfl ?_ ?_ <;> intro hc) | refine A.nil_seq ?_ | refine .nl ?_ | refine .dd ?_ | refine .ys ?_ | refine .no ?_ | (refine A.guard rfl ?_ ?_ <;> intro hc) | refine .lb ?_ | refine .ln ?_ | refine .ls ?_ | refine .pv ?_ | refine .ix ?_ | refine .pt ?_ | refine .pf ?_ | refine .bx ?_ | refine .al ?_ | refine .st ?_ | refine .ad ?_ | refine .sb ?_ | refine .mf ?_ | refine .cl ?_ | refine .cw ?_ | refine .ck ?_ | fail
  exact Fin.ret1 rfl (Weak.refl _)
theorem wNamed (s : Sch) (hs : s.size ≤ 1048640) (ho : s.ok) : PFn Tryz.prog 74 [s.enc] (.bool (namedB s)) := by
  have hss : s.size = sumSize Dfn.size s.defs + s.query.length + s.mutation.length + 4 := rfl
  have hL := sumSize_length (size := Dfn.size) (fun d => by unfold Dfn.size; omega) s.defs
  have hN : strsSize (dNames s) ≤ s.size := by
    have aux : ∀ l : List Dfn, sumSize (fun s : Str => s.length + 1) (l.map Dfn.name) ≤ sumSize Dfn.size l := fun l => by
      induction l with
      | nil => simp [sumSize]
      | cons d l ih =>
        have : d.name.length + 1 ≤ d.size := by unfold Dfn.size; omega
        rw [List.map_cons, sumSize, sumSize]; omega
    have := aux s.defs
    unfold strsSize dNames; omega
  have hNl : (dNames s).length = s.defs.length := List.length_map ..
  have h1 := wNamesDfn s.defs (by omega)
  have h2 := wSdl s hs ho
  have h3 := wOnce (dNames s) (by omega)
  have h4 := wForeign (dNames s) (by omega)
  have h5 := sContainsFStr (dNames s) 119 [.rptr s.enc] (fun n => kindB s n [0]) (by omega) (by simp [AV.closedL, AV.closed, Sch.closed]) (fun x hx => wNamed1 s x hs)
  refine AFn.plain rfl (by simp [AV.closedL, Sch.closed]) (AFn.enter [2] Tryz.func74 rfl rfl rfl rfl rfl (by decide) ?_)
  unfold namedB
  have h1' : PFn Tryz.prog 113 [.slice (s.defs.map Dfn.enc) .no, .fn (.func 114) [] []] (.slice ((dNames s).map AV.str) .no) := h1
  cases e1 : sdlOk s with
  | false =>
    rw [e1] at h2
    repeat' first | refine .br ?_ | refine .seq ?_ | refine .rg ?_ | refine .rd ?_ | refine .block ?_ | refine .scope ?_ | refine .skip ?_ | refine .label ?_ | refine .exit ?_ | refine .ret ?_ | refine .ct ?_ | refine .cf ?_ | refine .cy ?_ | refine .cn ?_ | (refine .cond rfl ?_ ?_ <;> intro hc) | refine A.nil_seq ?_ | refine .nl ?_ | refine .dd ?_ | refine .ys ?_ | refine .no ?_ | (refine A.guard rfl ?_ ?_ <;> intro hc) | refine .lb ?_ | refine .ln ?_ | refine .ls ?_ | refine .pv ?_ | refine .ix ?_ | refine .pt ?_ | refine .pf ?_ | refine .bx ?_ | refine .al ?_ | refine .st ?_ | refine .ad ?_ | refine .sb ?_ | refine .mf ?_ | refine .cl ?_ | refine .cw ?_ | refine .ck ?_ | refine A.call rfl h1' (WeakL.refl _) ?_ | refine A.call rfl h2 (WeakL.refl _) ?_ | fail
    exact Fin.ret1 rfl (Weak.refl _)
  | true =>
    rw [e1] at h2
    cases e2 : onceB (dNames s) with
    | false =>
      rw [e2] at h3
      repeat' first | refine .br ?_ | refine .seq ?_ | refine .rg ?_ | refine .rd ?_ | refine .block ?_ | refine .scope ?_ | refine .skip ?_ | refine .label ?_ | refine .exit ?_ | refine .ret ?_ | refine .ct ?_ | refine .cf ?_ | refine .cy ?_ | refine .cn ?_ | (refine .cond rfl ?_ ?_ <;> intro hc) | refine A.nil_seq ?_ | refine .nl ?_ | refine .dd ?_ | refine .ys ?_ | refine .no ?_ | (refine A.guard rfl ?_ ?_ <;> intro hc) | refine .lb ?_ | refine .ln ?_ | refine .ls ?_ | refine .pv ?_ | refine .ix ?_ | refine .pt ?_ | refine .pf ?_ | refine .bx ?_ | refine .al ?_ | refine .st ?_ | refine .ad ?_ | refine .sb ?_ | refine .mf ?_ | refine .cl ?_ | refine .cw ?_ | refine .ck ?_ | refine A.call rfl h1' (WeakL.refl _) ?_ | refine A.call rfl h2 (WeakL.refl _) ?_ | refine A.call rfl h3 (WeakL.refl _) ?_ | fail
      exact Fin.ret1 rfl (Weak.refl _)
    | true =>
      rw [e2] at h3
      cases e3 : foreignB (dNames s) with
      | false =>
        rw [e3] at h4
        repeat' first | refine .br ?_ | refine .seq ?_ | refine .rg ?_ | refine .rd ?_ | refine .block ?_ | refine .scope ?_ | refine .skip ?_ | refine .label ?_ | refine .exit ?_ | refine .ret ?_ | refine .ct ?_ | refine .cf ?_ | refine .cy ?_ | refine .cn ?_ | (refine .cond rfl ?_ ?_ <;> intro hc) | refine A.nil_seq ?_ | refine .nl ?_ | refine .dd ?_ | refine .ys ?_ | refine .no ?_ | (refine A.guard rfl ?_ ?_ <;> intro hc) | refine .lb ?_ | refine .ln ?_ | refine .ls ?_ | refine .pv ?_ | refine .ix ?_ | refine .pt ?_ | refine .pf ?_ | refine .bx ?_ | refine .al ?_ | refine .st ?_ | refine .ad ?_ | refine .sb ?_ | refine .mf ?_ | refine .cl ?_ | refine .cw ?_ | refine .ck ?_ | refine A.call rfl h1' (WeakL.refl _) ?_ | refine A.call rfl h2 (WeakL.refl _) ?_ | refine A.call rfl h3 (WeakL.refl _) ?_ | refine A.call rfl h4 (WeakL.refl _) ?_ | fail
        exact Fin.ret1 rfl (Weak.refl _)
      | true =>
        rw [e3] at h4
        repeat' first | refine .br ?_ | refine .seq ?_ | refine .rg ?_ | refine .rd ?_ | refine .block ?_ | refine .scope ?_ | refine .skip ?_ | refine .label ?_ | refine .exit ?_ | refine .ret ?_ | refine .ct ?_ | refine .cf ?_ | refine .cy ?_ | refine .cn ?_ | (refine .cond rfl ?_ ?_ <;> intro hc) | refine A.nil_seq ?_ | refine .nl ?_ | refine .dd ?_ | refine .ys ?_ | refine .no ?_ | (refine A.guard rfl ?_ ?_ <;> intro hc) | refine .lb ?_ | refine .ln ?_ | refine .ls ?_ | refine .pv ?_ | refine .ix ?_ | refine .pt ?_ | refine .pf ?_ | refine .bx ?_ | refine .al ?_ | refine .st ?_ | refine .ad ?_ | refine .sb ?_ | refine .mf ?_ | refine .cl ?_ | refine .cw ?_ | refine .ck ?_ | refine A.call rfl h1' (WeakL.refl _) ?_ | refine A.call rfl h2 (WeakL.refl _) ?_ | refine A.call rfl h3 (WeakL.refl _) ?_ | refine A.call rfl h4 (WeakL.refl _) ?_ | refine A.call rfl h5 (WeakL.refl _) ?_ | fail
        exact Fin.ret1 rfl (Weak.refl _)
theorem wCheckS (s : Sch) (hs : s.size ≤ 1048640) (ho : s.ok) : PFn Tryz.prog 16 [s.enc] (.int .i64 (checkI s)) := wCheck s hs (wNamed s hs ho)
end Go.Proofs.YtegakkonlhmeaaaGreatDoor
