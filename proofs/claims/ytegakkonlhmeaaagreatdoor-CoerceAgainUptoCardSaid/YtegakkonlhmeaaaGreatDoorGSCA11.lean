/-
  Contracts and plain facts for a law, joined.
-/
import Derived.Test.YtegakkonlhmeaaaGreatDoorGSCA10
import Derived.Test.YtegakkonlhmeaaaGreatDoorGSCA7
import Derived.Test.YtegakkonlhmeaaaGreatDoorGSCA3
set_option maxRecDepth 100000
set_option maxHeartbeats 16000000
set_option linter.unusedVariables false
set_option linter.unusedSimpArgs false
set_option linter.unusedSectionVars false
namespace Go.Proofs.YtegakkonlhmeaaaGreatDoor
open Go Go.Av
attribute [local irreducible] HCode AOps PFn AFn Av.Step TStep
structure WS where
  l : List Tkn
  ok : Bool
def WS.cs (W : WS) : List AV := [.slice (W.l.map Tkn.enc) (.own 0 2), .bool W.ok, .int .i64 0]
theorem WS.low (W : WS) : AV.lowL 1 1 W.cs = true := by simp [WS.cs, AV.lowL, AV.low]
theorem low_snoc (l : List Tkn) (s : Str) : AV.lowL 1 1 (List.map Tkn.enc l ++ [AV.agg [AV.int .i64 1, AV.str s]]) = true := by
  have := lowL_Tkn 1 1 (l ++ [tP s])
  rwa [List.map_append] at this
abbrev WC (f : FuncId) (x0 : AV) (vals : List AV) (W W' : WS) : Prop := AFn Tryz.prog f (x0 :: vals) ⟨[.cells W.cs], [.len W.l.length]⟩ (fun e σ1 => e = .ret (.tup []) ∧ σ1 = ⟨[.cells W'.cs], [.len W'.l.length]⟩)
section
variable {all : Array Oper} {draw : Bool} {K : AX → Slots → St → Prop} {rest : List Oper} {acc : List Tag} {s : Slots} {σ : St} {ty : TypeId} {pos : String} {af : Array Edge}
theorem A.callWC {d : Option Tmp} {f : FuncId} {args : Array Operand} {tys : Array TypeId} {x0 : AV} {vals vals0 : List AV} {W W' : WS} {B : List Ob} {T : List Tok}
    (hp : WC f x0 vals0 W W') (ha : evsK s args.toList some = some (x0 :: vals)) (hσ : σ = ⟨.cells W.cs :: B, .len W.l.length :: T⟩)
    (hx0 : x0.low 1 1 = true) (hc : AV.closedL vals0 = true) (hw : WeakL vals vals0)
    (kk : AOps Tryz.prog all draw K rest (.all :: acc) (putS d (.tup []) s) ⟨.cells W'.cs :: B, .len W'.l.length :: T⟩) : AOps Tryz.prog all draw K (⟨d, .call ⟨.value (.func f), args, tys⟩, ty, pos, af, none⟩ :: rest) acc s σ :=
  A.callW hp ha hσ hx0 hc W.low W'.low rfl hw kk
end
theorem WC.of {f : FuncId} {x0 : AV} {vals : List AV} {W W' : WS} (h : AFn Tryz.prog f (x0 :: vals) ⟨[.cells W.cs], [.len W.l.length]⟩ (fun e σ1 => e = .ret (.tup []) ∧ σ1.B.take 1 = [.cells W'.cs] ∧ σ1.T.take 1 = [.len W'.l.length])) : WC f x0 vals W W' :=
  AFn.dropped (AFn.mono h fun e σ1 hh => ⟨.tup [], 1, 1, hh.1, Nat.le_refl _, Nat.le_refl _, rfl, by rw [hh.2.1]; simp [belowB, Ob.low, WS.low], by rw [hh.2.2]; rfl, rfl, by rw [hh.2.1, hh.2.2]⟩)
theorem ws_app (l ys : List Tkn) (ok : Bool) : (⟨[.cells [.slice (l.map Tkn.enc ++ ys.map Tkn.enc) (.own 0 2), .bool ok, .int .i64 0]], [.len (l.length + (ys.map Tkn.enc).length)]⟩ : St) = ⟨[.cells (WS.mk (l ++ ys) ok).cs], [.len (WS.mk (l ++ ys) ok).l.length]⟩ := by
  simp [WS.cs]
def wNeed (b : Bool) (W : WS) : WS := ⟨W.l, W.ok && b⟩
def wMark (s : Str) (W : WS) : WS := ⟨W.l ++ [tP s], W.ok⟩
def wName (s : Str) (W : WS) : WS := ⟨W.l ++ [tW s], W.ok && nameB s⟩
def wVal (v : Val) (fixed : Bool) (W : WS) : WS := ⟨W.l ++ (if plainV v = true then toksV v else []), W.ok && (plainV v && !(fixed && decide (varsV v [] ≠ [])))⟩
def wDflt (has : Bool) (v : Val) (W : WS) : WS := if has = true then wVal v true (wMark [61] W) else wNeed (sameV v val0) W
theorem cNeed (W : WS) (b : Bool) : WC 229 (.ptr 0 0) [.bool b] W (wNeed b W) := by
  obtain ⟨l, ok⟩ := W
  refine AFn.enter [] Tryz.func229 rfl rfl rfl rfl rfl (by decide) ?_
  unfold wNeed WS.cs
  cases ok with
  | true =>
    repeat' first | refine .seq ?_ | refine .rg ?_ | refine .rd ?_ | refine .block ?_ | refine .scope ?_ | refine .skip ?_ | refine .label ?_ | refine .exit ?_ | refine .ret ?_ | refine .ct ?_ | refine .cf ?_ | refine .cy ?_ | refine .cn ?_ | (refine .cond rfl ?_ ?_ <;> intro hc) | refine A.nil_seq ?_ | refine .nl ?_ | refine .dd ?_ | refine .ys ?_ | refine .no ?_ | (refine A.guard rfl ?_ ?_ <;> intro hc) | refine .lb ?_ | refine .ln ?_ | refine .ls ?_ | refine .pv ?_ | refine .ix ?_ | refine .pt ?_ | refine .pf ?_ | refine .bx ?_ | refine .al ?_ | refine .st ?_ | refine .ad ?_ | refine .sb ?_ | refine .cl ?_ | refine .ck ?_ | refine A.nilPtr rfl ?_ | fail
    exact ⟨rfl, rfl⟩
  | false =>
    repeat' first | refine .seq ?_ | refine .rg ?_ | refine .rd ?_ | refine .block ?_ | refine .scope ?_ | refine .skip ?_ | refine .label ?_ | refine .exit ?_ | refine .ret ?_ | refine .ct ?_ | refine .cf ?_ | refine .cy ?_ | refine .cn ?_ | (refine .cond rfl ?_ ?_ <;> intro hc) | refine A.nil_seq ?_ | refine .nl ?_ | refine .dd ?_ | refine .ys ?_ | refine .no ?_ | (refine A.guard rfl ?_ ?_ <;> intro hc) | refine .lb ?_ | refine .ln ?_ | refine .ls ?_ | refine .pv ?_ | refine .ix ?_ | refine .pt ?_ | refine .pf ?_ | refine .bx ?_ | refine .al ?_ | refine .st ?_ | refine .ad ?_ | refine .sb ?_ | refine .cl ?_ | refine .ck ?_ | refine A.nilPtr rfl ?_ | fail
    exact ⟨rfl, rfl⟩
theorem cName (W : WS) (s : Str) (hs : s.length ≤ 1048640) (hW : W.l.length ≤ 1099511627776) : WC 211 (.ptr 0 0) [.str s] W (wName s W) := by
  have h1 := lName s (by omega)
  have h2 := cNeed W (nameB s)
  obtain ⟨l, ok⟩ := W
  simp only at hW
  refine AFn.enter [] Tryz.func211 rfl rfl rfl rfl rfl (by decide) ?_
  repeat' first | refine .seq ?_ | refine .rg ?_ | refine .rd ?_ | refine .block ?_ | refine .scope ?_ | refine .skip ?_ | refine .label ?_ | refine .exit ?_ | refine .ret ?_ | refine .ct ?_ | refine .cf ?_ | refine .cy ?_ | refine .cn ?_ | (refine .cond rfl ?_ ?_ <;> intro hc) | refine A.nil_seq ?_ | refine .nl ?_ | refine .dd ?_ | refine .ys ?_ | refine .no ?_ | (refine A.guard rfl ?_ ?_ <;> intro hc) | refine .lb ?_ | refine .ln ?_ | refine .ls ?_ | refine .pv ?_ | refine .ix ?_ | refine .pt ?_ | refine .pf ?_ | refine .bx ?_ | refine .al ?_ | refine .st ?_ | refine .ad ?_ | refine .sb ?_ | refine .cl ?_ | refine .ck ?_ | refine A.nilPtr rfl ?_ | refine A.callWC h2 rfl rfl rfl rfl (WeakL.refl _) ?_ | refine A.append (n := l.length) rfl rfl rfl rfl rfl rfl rfl rfl (List.length_map ..) rfl (by dsimp only [List.length_cons, List.length_nil]; omega) (by dsimp only [List.length_cons, List.length_nil]; omega) rfl ?_ | fail
  exact ⟨rfl, ws_app l [tW s] _⟩
theorem cMark (W : WS) (s : Str) (hW : W.l.length ≤ 1099511627776) : WC 212 (.ptr 0 0) [.slice [.str s] .no] W (wMark s W) := by
  obtain ⟨l, ok⟩ := W
  simp only at hW
  refine AFn.enter [] Tryz.func212 rfl rfl rfl rfl rfl (by decide) ?_
  repeat' first | refine .seq ?_ | refine .rg ?_ | refine .rd ?_ | refine .block ?_ | refine .scope ?_ | refine .skip ?_ | refine .label ?_ | refine .exit ?_ | refine .ret ?_ | refine .ct ?_ | refine .cf ?_ | refine .cy ?_ | refine .cn ?_ | (refine .cond rfl ?_ ?_ <;> intro hc) | refine A.nil_seq ?_ | refine .nl ?_ | refine .dd ?_ | refine .ys ?_ | refine .no ?_ | (refine A.guard rfl ?_ ?_ <;> intro hc) | refine .lb ?_ | refine .ln ?_ | refine .ls ?_ | refine .pv ?_ | refine .ix ?_ | refine .pt ?_ | refine .pf ?_ | refine .bx ?_ | refine .al ?_ | refine .st ?_ | refine .ad ?_ | refine .sb ?_ | refine .cl ?_ | refine .ck ?_ | fail
  refine HCode.forK 1 (fun k => [(8, .int .i64 k), (7, .int .i64 1), (6, .slice [.str s] .no), (0, .ptr 0 0)])
    (fun k => ⟨[.cells (if k = 0 then WS.mk l ok else wMark s ⟨l, ok⟩).cs], [.len (if k = 0 then WS.mk l ok else wMark s ⟨l, ok⟩).l.length]⟩) (fun _ => True) ⟨rfl, rfl, rfl, rfl, trivial⟩ rfl trivial fun k hk _ => ?_
  match k, hk with
  | 0, _ =>
    have d1 : decide (((0 : Nat) : Int) < 1) = true := rfl
    have x1 : ([AV.str s] : List AV)[0]? = some (.str s) := rfl
    repeat' first | refine .seq ?_ | refine .rg ?_ | refine .rd ?_ | refine .block ?_ | refine .scope ?_ | refine .skip ?_ | refine .label ?_ | refine .exit ?_ | refine .ret ?_ | refine .ct ?_ | refine .cf ?_ | refine .cy ?_ | refine .cn ?_ | (refine .cond rfl ?_ ?_ <;> intro hc) | refine A.nil_seq ?_ | refine .nl ?_ | refine .dd ?_ | refine .ys ?_ | refine .no ?_ | (refine A.guard rfl ?_ ?_ <;> intro hc) | refine .lb ?_ | refine .ln ?_ | refine .ls ?_ | refine .pv ?_ | refine .ix ?_ | refine .pt ?_ | refine .pf ?_ | refine .bx ?_ | refine .al ?_ | refine .st ?_ | refine .ad ?_ | refine .sb ?_ | refine .cl ?_ | refine .ck ?_ | refine A.nilPtr rfl ?_ | refine A.append (n := l.length) rfl rfl rfl rfl rfl rfl rfl rfl (List.length_map ..) rfl (by dsimp only [List.length_cons, List.length_nil]; omega) (by dsimp only [List.length_cons, List.length_nil]; omega) rfl ?_ | fail
    exact ⟨Nat.one_pos, ⟨rfl, rfl, rfl, rfl, trivial⟩, rfl, (by simp [belowB, belowT, Ob.low, AV.lowL, AV.low, Tok.low]; exact low_snoc l s), ws_app l [tP s] _, trivial⟩
  | 1, _ =>
    have d1 : decide (((1 : Nat) : Int) < 1) = false := rfl
    repeat' first | refine .seq ?_ | refine .rg ?_ | refine .rd ?_ | refine .block ?_ | refine .scope ?_ | refine .skip ?_ | refine .label ?_ | refine .exit ?_ | refine .ret ?_ | refine .ct ?_ | refine .cf ?_ | refine .cy ?_ | refine .cn ?_ | (refine .cond rfl ?_ ?_ <;> intro hc) | refine A.nil_seq ?_ | refine .nl ?_ | refine .dd ?_ | refine .ys ?_ | refine .no ?_ | (refine A.guard rfl ?_ ?_ <;> intro hc) | refine .lb ?_ | refine .ln ?_ | refine .ls ?_ | refine .pv ?_ | refine .ix ?_ | refine .pt ?_ | refine .pf ?_ | refine .bx ?_ | refine .al ?_ | refine .st ?_ | refine .ad ?_ | refine .sb ?_ | refine .cl ?_ | refine .ck ?_ | fail
    exact ⟨rfl, rfl⟩
theorem cValue (W : WS) (v : Val) (fixed : Bool) (hv : v.size ≤ 1048640) (ho : v.ok) (hW : W.l.length ≤ 1099511627776) : WC 265 (.ptr 0 0) [v.enc, .bool fixed] W (wVal v fixed W) := by
  have h1 := vTokens v (by omega) ho
  have h2 := cNeed W (plainV v && !(fixed && decide (varsV v [] ≠ [])))
  have h3 := vDepth v.size (by omega) v (Nat.le_refl _)
  have h4 := vVars v (by omega)
  have hl := toksV_len v
  have hdl := depV_le v
  obtain ⟨l, ok⟩ := W
  simp only at hW
  refine AFn.enter [] Tryz.func265 rfl rfl rfl rfl rfl (by decide) ?_
  unfold wVal
  generalize hT : (if plainV v = true then toksV v else []) = ys at *
  have hys : ys.length ≤ 137438953472 := by
    rw [← hT]
    split
    · omega
    · exact Nat.zero_le _
  have hym : (ys.map Tkn.enc).length = ys.length := List.length_map ..
  cases hp : plainV v with
  | false =>
    rw [hp] at h1 h2
    repeat' first | refine .br ?_ | refine .seq ?_ | refine .rg ?_ | refine .rd ?_ | refine .block ?_ | refine .scope ?_ | refine .skip ?_ | refine .label ?_ | refine .exit ?_ | refine .ret ?_ | refine .ct ?_ | refine .cf ?_ | refine .cy ?_ | refine .cn ?_ | (refine .cond rfl ?_ ?_ <;> intro hc) | refine A.nil_seq ?_ | refine .nl ?_ | refine .dd ?_ | refine .ys ?_ | refine .no ?_ | (refine A.guard rfl ?_ ?_ <;> intro hc) | refine .lb ?_ | refine .ln ?_ | refine .ls ?_ | refine .pv ?_ | refine .ix ?_ | refine .pt ?_ | refine .pf ?_ | refine .bx ?_ | refine .al ?_ | refine .st ?_ | refine .ad ?_ | refine .sb ?_ | refine .cl ?_ | refine .ck ?_ | refine A.nilPtr rfl ?_ | refine A.callWC h2 rfl rfl rfl rfl (WeakL.refl _) ?_ | refine A.append (n := l.length) rfl rfl rfl rfl rfl rfl rfl rfl (List.length_map ..) (Tkn.fitsAll _) (by rw [hym]; dsimp only; omega) (by rw [hym]; omega) rfl ?_ | fail
    exact ⟨rfl, ws_app l ys _⟩
  | true =>
    rw [hp] at h1 h2
    have hd : decide ((0 : Int) + (depV v : Int) ≤ 16) = true := by
      unfold plainV at hp
      simp only [Bool.and_eq_true, decide_eq_true_eq] at hp
      exact decide_eq_true (by omega)
    cases fixed with
    | false =>
      repeat' first | refine .br ?_ | refine .seq ?_ | refine .rg ?_ | refine .rd ?_ | refine .block ?_ | refine .scope ?_ | refine .skip ?_ | refine .label ?_ | refine .exit ?_ | refine .ret ?_ | refine .ct ?_ | refine .cf ?_ | refine .cy ?_ | refine .cn ?_ | (refine .cond rfl ?_ ?_ <;> intro hc) | refine A.nil_seq ?_ | refine .nl ?_ | refine .dd ?_ | refine .ys ?_ | refine .no ?_ | (refine A.guard rfl ?_ ?_ <;> intro hc) | refine .lb ?_ | refine .ln ?_ | refine .ls ?_ | refine .pv ?_ | refine .ix ?_ | refine .pt ?_ | refine .pf ?_ | refine .bx ?_ | refine .al ?_ | refine .st ?_ | refine .ad ?_ | refine .sb ?_ | refine .cl ?_ | refine .ck ?_ | refine A.nilPtr rfl ?_ | refine A.callWC h2 rfl rfl rfl rfl (WeakL.refl _) ?_ | refine A.append (n := l.length) rfl rfl rfl rfl rfl rfl rfl rfl (List.length_map ..) (Tkn.fitsAll _) (by rw [hym]; dsimp only; omega) (by rw [hym]; omega) rfl ?_ | fail
      exact ⟨rfl, ws_app l ys _⟩
    | true =>
      have d1 : (true && !(true && decide (varsV v [] ≠ []))) = !decide (0 < ((varsV v []).length : Int)) := by
        cases varsV v [] <;> simp <;> omega
      rw [d1] at h2 ⊢
      repeat' first | refine .br ?_ | refine .seq ?_ | refine .rg ?_ | refine .rd ?_ | refine .block ?_ | refine .scope ?_ | refine .skip ?_ | refine .label ?_ | refine .exit ?_ | refine .ret ?_ | refine .ct ?_ | refine .cf ?_ | refine .cy ?_ | refine .cn ?_ | (refine .cond rfl ?_ ?_ <;> intro hc) | refine A.nil_seq ?_ | refine .nl ?_ | refine .dd ?_ | refine .ys ?_ | refine .no ?_ | (refine A.guard rfl ?_ ?_ <;> intro hc) | refine .lb ?_ | refine .ln ?_ | refine .ls ?_ | refine .pv ?_ | refine .ix ?_ | refine .pt ?_ | refine .pf ?_ | refine .bx ?_ | refine .al ?_ | refine .st ?_ | refine .ad ?_ | refine .sb ?_ | refine .cl ?_ | refine .ck ?_ | refine A.nilPtr rfl ?_ | refine A.callWC h2 rfl rfl rfl rfl (WeakL.refl _) ?_ | refine A.append (n := l.length) rfl rfl rfl rfl rfl rfl rfl rfl (List.length_map ..) (Tkn.fitsAll _) (by rw [hym]; dsimp only; omega) (by rw [hym]; omega) rfl ?_ | fail
      exact ⟨rfl, ws_app l ys _⟩
theorem cDflt (W : WS) (has : Bool) (v : Val) (hv : v.size ≤ 1048640) (ho : v.ok) (hW : W.l.length ≤ 1099511627775) : WC 249 (.ptr 0 0) [.bool has, v.enc] W (wDflt has v W) := by
  have h1 := vSame v.size v val0 (Nat.le_refl _) (by omega) (by decide)
  have h2 := cNeed W (sameV v val0)
  have h3 := cMark W [61] (by omega)
  have h4 := cValue (wMark [61] W) v true hv ho (by unfold wMark; simp only [List.length_append, List.length_cons, List.length_nil]; omega)
  refine AFn.enter [] Tryz.func249 rfl rfl rfl rfl rfl (by decide) ?_
  unfold wDflt
  cases has with
  | true =>
    rw [if_pos rfl]
    repeat' first | refine .br ?_ | refine .seq ?_ | refine .rg ?_ | refine .rd ?_ | refine .block ?_ | refine .scope ?_ | refine .skip ?_ | refine .label ?_ | refine .exit ?_ | refine .ret ?_ | refine .ct ?_ | refine .cf ?_ | refine .cy ?_ | refine .cn ?_ | (refine .cond rfl ?_ ?_ <;> intro hc) | refine A.nil_seq ?_ | refine .nl ?_ | refine .dd ?_ | refine .ys ?_ | refine .no ?_ | (refine A.guard rfl ?_ ?_ <;> intro hc) | refine .lb ?_ | refine .ln ?_ | refine .ls ?_ | refine .pv ?_ | refine .ix ?_ | refine .pt ?_ | refine .pf ?_ | refine .bx ?_ | refine .al ?_ | refine .st ?_ | refine .ad ?_ | refine .sb ?_ | refine .cl ?_ | refine .ck ?_ | refine A.callWC h3 rfl rfl rfl rfl (WeakL.cons (Weak.no (WeakL.refl _)) (WeakL.refl _)) ?_ | refine A.callWC h4 rfl rfl rfl (by simp [AV.closedL, AV.closed, Val.closed]) (WeakL.refl _) ?_ | fail
    exact ⟨rfl, rfl⟩
  | false =>
    rw [if_neg (by simp)]
    repeat' first | refine .br ?_ | refine .seq ?_ | refine .rg ?_ | refine .rd ?_ | refine .block ?_ | refine .scope ?_ | refine .skip ?_ | refine .label ?_ | refine .exit ?_ | refine .ret ?_ | refine .ct ?_ | refine .cf ?_ | refine .cy ?_ | refine .cn ?_ | (refine .cond rfl ?_ ?_ <;> intro hc) | refine A.nil_seq ?_ | refine .nl ?_ | refine .dd ?_ | refine .ys ?_ | refine .no ?_ | (refine A.guard rfl ?_ ?_ <;> intro hc) | refine .lb ?_ | refine .ln ?_ | refine .ls ?_ | refine .pv ?_ | refine .ix ?_ | refine .pt ?_ | refine .pf ?_ | refine .bx ?_ | refine .al ?_ | refine .st ?_ | refine .ad ?_ | refine .sb ?_ | refine .cl ?_ | refine .ck ?_ | refine A.callWC h2 rfl rfl rfl rfl (WeakL.refl _) ?_ | refine A.call rfl h1 (WeakL.cons (Weak.refl _) (WeakL.cons weak_flatV (WeakL.refl _))) ?_ | fail
    exact ⟨rfl, rfl⟩
end Go.Proofs.YtegakkonlhmeaaaGreatDoor
namespace Go.Proofs.YtegakkonlhmeaaaGreatDoor
open Go Go.Av
attribute [local irreducible] HCode AOps PFn AFn Av.Step TStep
abbrev wst (W : WS) : St := ⟨[.cells W.cs], [.len W.l.length]⟩
theorem wst_below (W : WS) : (belowB 1 1 [.cells W.cs] && belowT 1 1 [.len W.l.length]) = true := by simp [belowB, Ob.low, WS.low, belowT, Tok.low]
theorem len_need (b : Bool) (W : WS) : (wNeed b W).l.length = W.l.length := rfl
theorem len_mark (s : Str) (W : WS) : (wMark s W).l.length = W.l.length + 1 := by simp [wMark]
theorem len_name (s : Str) (W : WS) : (wName s W).l.length = W.l.length + 1 := by simp [wName]
theorem len_val (v : Val) (f : Bool) (W : WS) : (wVal v f W).l.length ≤ W.l.length + 2 * v.size := by
  have := toksV_len v
  unfold wVal
  simp only [List.length_append]
  split
  · omega
  · simp
theorem len_dflt (h : Bool) (v : Val) (W : WS) : (wDflt h v W).l.length ≤ W.l.length + 1 + 2 * v.size := by
  unfold wDflt
  split
  · have := len_val v true (wMark [61] W)
    rw [len_mark] at this
    omega
  · rw [len_need]; omega
theorem fold_len {α : Type} (F : WS → α → WS) (c : α → Nat) (h : ∀ W x, (F W x).l.length ≤ W.l.length + c x) : ∀ (l : List α) (W : WS), (l.foldl F W).l.length ≤ W.l.length + sumSize c l
  | [], W => by simp [sumSize]
  | x :: l, W => by
    have h1 := h W x
    have h2 := fold_len F c h l (F W x)
    rw [List.foldl_cons, sumSize]; omega
theorem fold_ok {α : Type} (F : WS → α → WS) (g : α → Bool) (h : ∀ W x, (F W x).ok = (W.ok && g x)) : ∀ (l : List α) (W : WS), (l.foldl F W).ok = (W.ok && l.all g)
  | [], W => by simp
  | x :: l, W => by rw [List.foldl_cons, fold_ok F g h l, h, List.all_cons, Bool.and_assoc]
theorem fold_take' {α : Type} (F : WS → α → WS) {l : List α} {k : Nat} (h : k < l.length) (W : WS) : (l.take (k + 1)).foldl F W = F ((l.take k).foldl F W) l[k] := by
  rw [List.take_succ_eq_append_getElem h, List.foldl_append]; rfl
theorem wsum_le {α : Type} (c : α → Nat) : ∀ (l : List α) (k : Nat) (h : k < l.length), sumSize c (l.take k) + c l[k] ≤ sumSize c l
  | [], k, h => by simp at h
  | x :: l, 0, h => by simp [sumSize]
  | x :: l, k + 1, h => by
    have := wsum_le c l k (by simpa using h)
    rw [List.take_succ_cons, sumSize, sumSize, List.getElem_cons_succ]; omega
theorem sum_mul {α : Type} (c : α → Nat) (n : Nat) : ∀ l : List α, sumSize (fun x => n * c x) l = n * sumSize c l
  | [] => by simp [sumSize]
  | x :: l => by rw [sumSize, sumSize, sum_mul c n l, Nat.mul_add]
def wStepT (t : Typ) (k : Nat) (W : WS) : WS :=
  if (t.musts.toNat / 2 ^ (t.lists.toNat - k)) % 2 = 1 then wMark [33] (if k = 0 then W else wMark [93] W) else (if k = 0 then W else wMark [93] W)
def wTailT (t : Typ) : Nat → WS → WS
  | 0, W => W
  | k + 1, W => wStepT t k (wTailT t k W)
def wOpenT : Nat → WS → WS
  | 0, W => W
  | k + 1, W => wMark [91] (wOpenT k W)
def wType (t : Typ) (W : WS) : WS := if (W.ok && rightT t) = true then wTailT t (t.lists.toNat + 1) (wName t.name (wOpenT t.lists.toNat (wNeed (rightT t) W))) else wNeed (rightT t) W
theorem len_open : ∀ (k : Nat) (W : WS), (wOpenT k W).l.length = W.l.length + k
  | 0, W => rfl
  | k + 1, W => by rw [wOpenT, len_mark, len_open k W]; omega
theorem len_step (t : Typ) (k : Nat) (W : WS) : (wStepT t k W).l.length ≤ W.l.length + 2 := by
  unfold wStepT
  split
  · rw [len_mark]
    split
    · omega
    · rw [len_mark]; omega
  · split
    · omega
    · rw [len_mark]; omega
theorem len_tail (t : Typ) : ∀ (k : Nat) (W : WS), (wTailT t k W).l.length ≤ W.l.length + 2 * k
  | 0, W => by rw [wTailT]; omega
  | k + 1, W => by
    have h1 := len_step t k (wTailT t k W)
    have h2 := len_tail t k W
    rw [wTailT]; omega
theorem right_parts {t : Typ} (h : rightT t = true) : nameB t.name = true ∧ 0 ≤ t.lists ∧ t.lists ≤ 4 ∧ 0 ≤ t.musts ∧ t.musts < 2 ^ (t.lists.toNat + 1) := by
  unfold rightT at h
  simpa only [Bool.and_eq_true, decide_eq_true_eq] using h
theorem len_type (t : Typ) (W : WS) : (wType t W).l.length ≤ W.l.length + 15 := by
  unfold wType
  split
  next h =>
    have h2 := right_parts (Bool.and_eq_true _ _ ▸ h).2
    have h3 := len_tail t (t.lists.toNat + 1) (wName t.name (wOpenT t.lists.toNat (wNeed (rightT t) W)))
    rw [len_name, len_open, len_need] at h3
    omega
  · rw [len_need]; omega
theorem ok_open : ∀ (k : Nat) (W : WS), (wOpenT k W).ok = W.ok
  | 0, W => rfl
  | k + 1, W => by rw [wOpenT]; exact ok_open k W
theorem ok_step (t : Typ) (k : Nat) (W : WS) : (wStepT t k W).ok = W.ok := by
  unfold wStepT
  repeat' split
  all_goals rfl
theorem ok_tail (t : Typ) : ∀ (k : Nat) (W : WS), (wTailT t k W).ok = W.ok
  | 0, W => rfl
  | k + 1, W => by rw [wTailT, ok_step]; exact ok_tail t k W
theorem ok_type (t : Typ) (W : WS) : (wType t W).ok = (W.ok && rightT t) := by
  unfold wType
  split
  next h =>
    have h2 := right_parts (Bool.and_eq_true _ _ ▸ h).2
    rw [ok_tail]
    show ((wOpenT t.lists.toNat (wNeed (rightT t) W)).ok && nameB t.name) = _
    rw [ok_open, h2.1, Bool.and_true]
    rfl
  · rfl
theorem ok_dflt (p : Par) (W : WS) : (wDflt p.has p.d W).ok = (W.ok && dfltOk p) := by
  unfold wDflt dfltOk
  split
  · show ((wMark [61] W).ok && (plainV p.d && !(true && decide (varsV p.d [] ≠ [])))) = _
    unfold valFix
    rw [show (!(true && decide (varsV p.d [] ≠ []))) = decide (varsV p.d [] = []) by simp]
    rfl
  · rfl
theorem pow_ok {n : Nat} (h : n ≤ 5) : (2 : Int) ^ n ≤ 32 := by
  match n, h with
  | 0, _ => decide
  | 1, _ => decide
  | 2, _ => decide
  | 3, _ => decide
  | 4, _ => decide
  | 5, _ => decide
theorem shr_bit (t : Typ) (k : Nat) (hk : k ≤ t.lists.toNat) (h : 0 ≤ t.lists) (h4 : t.lists ≤ 4) (hm : 0 ≤ t.musts) : t.musts.fdiv (2 ^ min (t.lists - (k : Int)).toNat IntKind.i64.bits) = ((t.musts.toNat / 2 ^ (t.lists.toNat - k) : Nat) : Int) := by
  have e : min (t.lists - (k : Int)).toNat IntKind.i64.bits = t.lists.toNat - k := by
    show min (t.lists - (k : Int)).toNat 64 = _
    omega
  rw [e, Int.fdiv_eq_ediv_of_nonneg _ (Int.le_of_lt (Int.pow_pos (by decide)))]
  rw [Int.natCast_ediv, Int.toNat_of_nonneg hm]
  simp
theorem cType (W : WS) (t : Typ) (hs : t.name.length ≤ 1048640) (hW : W.l.length + 16 ≤ 1099511627776) : WC 248 (.ptr 0 0) [t.enc] W (wType t W) := by
  have h1 := wRight t (by omega)
  have h2 := cNeed W (rightT t)
  refine AFn.enter [] Tryz.func248 rfl rfl rfl rfl rfl (by decide) ?_
  unfold wType
  cases hr : (W.ok && rightT t) with
  | false =>
    rw [if_neg (by simp)]
    have e1 : (!(W.ok && rightT t)) = true := by rw [hr]; rfl
    repeat' first | refine .br ?_ | refine .seq ?_ | refine .rg ?_ | refine .rd ?_ | refine .block ?_ | refine .scope ?_ | refine .skip ?_ | refine .label ?_ | refine .exit ?_ | refine .ret ?_ | refine .ct ?_ | refine .cf ?_ | refine .cy ?_ | refine .cn ?_ | (refine .cond rfl ?_ ?_ <;> intro hc) | refine A.nil_seq ?_ | refine .nl ?_ | refine .dd ?_ | refine .ys ?_ | refine .no ?_ | (refine A.guard rfl ?_ ?_ <;> intro hc) | refine .lb ?_ | refine .ln ?_ | refine .ls ?_ | refine .pv ?_ | refine .ix ?_ | refine .pt ?_ | refine .pf ?_ | refine .bx ?_ | refine .al ?_ | refine .st ?_ | refine .ad ?_ | refine .sb ?_ | refine .cl ?_ | refine .ck ?_ | refine A.nilPtr rfl ?_ | refine A.callWC h2 rfl rfl rfl rfl (WeakL.refl _) ?_ | fail
    exact ⟨rfl, rfl⟩
  | true =>
    rw [if_pos rfl]
    have e1 : (!(W.ok && rightT t)) = false := by rw [hr]; rfl
    obtain ⟨r1, r2, r3, r4, r5⟩ := right_parts (Bool.and_eq_true _ _ ▸ hr).2
    have r6 : t.musts < 32 + 1 := by have := pow_ok (n := t.lists.toNat + 1) (by omega); omega
    generalize hW1 : wNeed (rightT t) W = W1 at *
    have hl1 : W1.l.length = W.l.length := by rw [← hW1]; rfl
    have e2 : (!W1.ok) = false := by rw [← hW1]; exact e1
    repeat' first | refine .br ?_ | refine .seq ?_ | refine .rg ?_ | refine .rd ?_ | refine .block ?_ | refine .scope ?_ | refine .skip ?_ | refine .label ?_ | refine .exit ?_ | refine .ret ?_ | refine .ct ?_ | refine .cf ?_ | refine .cy ?_ | refine .cn ?_ | (refine .cond rfl ?_ ?_ <;> intro hc) | refine A.nil_seq ?_ | refine .nl ?_ | refine .dd ?_ | refine .ys ?_ | refine .no ?_ | (refine A.guard rfl ?_ ?_ <;> intro hc) | refine .lb ?_ | refine .ln ?_ | refine .ls ?_ | refine .pv ?_ | refine .ix ?_ | refine .pt ?_ | refine .pf ?_ | refine .bx ?_ | refine .al ?_ | refine .st ?_ | refine .ad ?_ | refine .sb ?_ | refine .cl ?_ | refine .ck ?_ | refine A.nilPtr rfl ?_ | refine A.callWC h2 rfl rfl rfl rfl (WeakL.refl _) ?_ | fail
    refine HCode.forK t.lists.toNat (fun k => [(16, .int .i64 k), (15, .int .i64 t.lists), (3, .rptr t.enc), (0, .ptr 0 0)]) (fun k => wst (wOpenT k W1)) (fun _ => True) ⟨rfl, rfl, rfl, rfl, trivial⟩ rfl trivial fun k hk _ => ?_
    have hlo := len_open k W1
    by_cases hk1 : k < t.lists.toNat
    · have d1 : decide ((k : Int) < t.lists) = true := decide_eq_true (by omega)
      have c1 := cMark (wOpenT k W1) [91] (by omega)
      repeat' first | refine .seq ?_ | refine .rg ?_ | refine .rd ?_ | refine .block ?_ | refine .scope ?_ | refine .skip ?_ | refine .label ?_ | refine .exit ?_ | refine .ret ?_ | refine .ct ?_ | refine .cf ?_ | refine .cy ?_ | refine .cn ?_ | (refine .cond rfl ?_ ?_ <;> intro hc) | refine A.nil_seq ?_ | refine .nl ?_ | refine .dd ?_ | refine .ys ?_ | refine .no ?_ | (refine A.guard rfl ?_ ?_ <;> intro hc) | refine .lb ?_ | refine .ln ?_ | refine .ls ?_ | refine .pv ?_ | refine .ix ?_ | refine .pt ?_ | refine .pf ?_ | refine .bx ?_ | refine .al ?_ | refine .st ?_ | refine .ad ?_ | refine .sb ?_ | refine .cl ?_ | refine .ck ?_ | refine A.callWC c1 rfl rfl rfl rfl (WeakL.cons (Weak.no (WeakL.refl _)) (WeakL.refl _)) ?_ | fail
      exact ⟨hk1, ⟨rfl, rfl, rfl, rfl, trivial⟩, rfl, wst_below _, rfl, trivial⟩
    · have d1 : decide ((k : Int) < t.lists) = false := decide_eq_false (by omega)
      obtain rfl : k = t.lists.toNat := by omega
      have c1 := cName (wOpenT t.lists.toNat W1) t.name (by omega) (by omega)
      generalize hW2 : wName t.name (wOpenT t.lists.toNat W1) = W2 at *
      have hl2 : W2.l.length ≤ W.l.length + 5 := by rw [← hW2, len_name]; omega
      repeat' first | refine .seq ?_ | refine .rg ?_ | refine .rd ?_ | refine .block ?_ | refine .scope ?_ | refine .skip ?_ | refine .label ?_ | refine .exit ?_ | refine .ret ?_ | refine .ct ?_ | refine .cf ?_ | refine .cy ?_ | refine .cn ?_ | (refine .cond rfl ?_ ?_ <;> intro hc) | refine A.nil_seq ?_ | refine .nl ?_ | refine .dd ?_ | refine .ys ?_ | refine .no ?_ | (refine A.guard rfl ?_ ?_ <;> intro hc) | refine .lb ?_ | refine .ln ?_ | refine .ls ?_ | refine .pv ?_ | refine .ix ?_ | refine .pt ?_ | refine .pf ?_ | refine .bx ?_ | refine .al ?_ | refine .st ?_ | refine .ad ?_ | refine .sb ?_ | refine .cl ?_ | refine .ck ?_ | refine A.callWC c1 rfl rfl rfl rfl (WeakL.refl _) ?_ | fail
      refine HCode.forK (t.lists.toNat + 1) (fun k => [(4, .int .i64 (t.lists - (k : Int))), (3, .rptr t.enc), (0, .ptr 0 0)]) (fun k => wst (wTailT t k W2)) (fun _ => True) ⟨by rw [show t.lists - ((0 : Nat) : Int) = t.lists by omega]; rfl, rfl, rfl, trivial⟩ rfl trivial fun k hk _ => ?_
      have hlt := len_tail t k W2
      by_cases hk1 : k < t.lists.toNat + 1
      · have d1 : decide (t.lists - (k : Int) ≥ 0) = true := decide_eq_true (by omega)
        have d1' : decide (0 ≤ t.lists - (k : Int)) = true := decide_eq_true (by omega)
        have hsh := shr_bit t k (by omega) r2 r3 r4
        have hq : t.musts.toNat / 2 ^ (t.lists.toNat - k) ≤ t.musts.toNat := Nat.div_le_self _ _
        have n1 : t.lists - (k : Int) - 1 = t.lists - ((k + 1 : Nat) : Int) := by omega
        have hstep : wTailT t (k + 1) W2 = wStepT t k (wTailT t k W2) := rfl
        unfold wStepT at hstep
        by_cases h0 : k = 0
        · have d2 : decide (t.lists - (k : Int) < t.lists) = false := decide_eq_false (by omega)
          rw [if_pos h0] at hstep
          by_cases hb : (t.musts.toNat / 2 ^ (t.lists.toNat - k)) % 2 = 1
          · have d3 : ((((t.musts.toNat / 2 ^ (t.lists.toNat - k)) % 2 : Nat) : Int) == 1) = true := by rw [hb]; rfl
            rw [if_pos hb] at hstep
            have c2 := cMark (wTailT t k W2) [33] (by omega)
            repeat' first | refine .seq ?_ | refine .rg ?_ | refine .rd ?_ | refine .block ?_ | refine .scope ?_ | refine .skip ?_ | refine .label ?_ | refine .exit ?_ | refine .ret ?_ | refine .ct ?_ | refine .cf ?_ | refine .cy ?_ | refine .cn ?_ | (refine .cond rfl ?_ ?_ <;> intro hc) | refine A.nil_seq ?_ | refine .nl ?_ | refine .dd ?_ | refine .ys ?_ | refine .no ?_ | (refine A.guard rfl ?_ ?_ <;> intro hc) | refine .lb ?_ | refine .ln ?_ | refine .ls ?_ | refine .pv ?_ | refine .ix ?_ | refine .pt ?_ | refine .pf ?_ | refine .bx ?_ | refine .al ?_ | refine .st ?_ | refine .ad ?_ | refine .sb ?_ | refine .cl ?_ | refine .ck ?_ | refine A.shr rfl rfl (by omega) hsh ?_ | refine A.band (m := t.musts.toNat / 2 ^ (t.lists.toNat - k)) (n := 1) rfl rfl rfl rfl (by omega) (by decide) (and1 _) ?_ | refine A.callWC c2 rfl rfl rfl rfl (WeakL.cons (Weak.no (WeakL.refl _)) (WeakL.refl _)) ?_ | fail
            exact ⟨hk1, ⟨congrArg (AV.int .i64) n1, rfl, rfl, trivial⟩, rfl, wst_below _, (congrArg wst hstep).symm, trivial⟩
          · have d3 : ((((t.musts.toNat / 2 ^ (t.lists.toNat - k)) % 2 : Nat) : Int) == 1) = false := by rw [beq_eq_false_iff_ne]; omega
            rw [if_neg hb] at hstep
            repeat' first | refine .seq ?_ | refine .rg ?_ | refine .rd ?_ | refine .block ?_ | refine .scope ?_ | refine .skip ?_ | refine .label ?_ | refine .exit ?_ | refine .ret ?_ | refine .ct ?_ | refine .cf ?_ | refine .cy ?_ | refine .cn ?_ | (refine .cond rfl ?_ ?_ <;> intro hc) | refine A.nil_seq ?_ | refine .nl ?_ | refine .dd ?_ | refine .ys ?_ | refine .no ?_ | (refine A.guard rfl ?_ ?_ <;> intro hc) | refine .lb ?_ | refine .ln ?_ | refine .ls ?_ | refine .pv ?_ | refine .ix ?_ | refine .pt ?_ | refine .pf ?_ | refine .bx ?_ | refine .al ?_ | refine .st ?_ | refine .ad ?_ | refine .sb ?_ | refine .cl ?_ | refine .ck ?_ | refine A.shr rfl rfl (by omega) hsh ?_ | refine A.band (m := t.musts.toNat / 2 ^ (t.lists.toNat - k)) (n := 1) rfl rfl rfl rfl (by omega) (by decide) (and1 _) ?_ | fail
            exact ⟨hk1, ⟨congrArg (AV.int .i64) n1, rfl, rfl, trivial⟩, rfl, wst_below _, (congrArg wst hstep).symm, trivial⟩
        · have d2 : decide (t.lists - (k : Int) < t.lists) = true := decide_eq_true (by omega)
          rw [if_neg h0] at hstep
          have c3 := cMark (wTailT t k W2) [93] (by omega)
          by_cases hb : (t.musts.toNat / 2 ^ (t.lists.toNat - k)) % 2 = 1
          · have d3 : ((((t.musts.toNat / 2 ^ (t.lists.toNat - k)) % 2 : Nat) : Int) == 1) = true := by rw [hb]; rfl
            rw [if_pos hb] at hstep
            have c2 := cMark (wMark [93] (wTailT t k W2)) [33] (by rw [len_mark]; omega)
            repeat' first | refine .seq ?_ | refine .rg ?_ | refine .rd ?_ | refine .block ?_ | refine .scope ?_ | refine .skip ?_ | refine .label ?_ | refine .exit ?_ | refine .ret ?_ | refine .ct ?_ | refine .cf ?_ | refine .cy ?_ | refine .cn ?_ | (refine .cond rfl ?_ ?_ <;> intro hc) | refine A.nil_seq ?_ | refine .nl ?_ | refine .dd ?_ | refine .ys ?_ | refine .no ?_ | (refine A.guard rfl ?_ ?_ <;> intro hc) | refine .lb ?_ | refine .ln ?_ | refine .ls ?_ | refine .pv ?_ | refine .ix ?_ | refine .pt ?_ | refine .pf ?_ | refine .bx ?_ | refine .al ?_ | refine .st ?_ | refine .ad ?_ | refine .sb ?_ | refine .cl ?_ | refine .ck ?_ | refine A.shr rfl rfl (by omega) hsh ?_ | refine A.band (m := t.musts.toNat / 2 ^ (t.lists.toNat - k)) (n := 1) rfl rfl rfl rfl (by omega) (by decide) (and1 _) ?_ | refine A.callWC c3 rfl rfl rfl rfl (WeakL.cons (Weak.no (WeakL.refl _)) (WeakL.refl _)) ?_ | refine A.callWC c2 rfl rfl rfl rfl (WeakL.cons (Weak.no (WeakL.refl _)) (WeakL.refl _)) ?_ | fail
            exact ⟨hk1, ⟨congrArg (AV.int .i64) n1, rfl, rfl, trivial⟩, rfl, wst_below _, (congrArg wst hstep).symm, trivial⟩
          · have d3 : ((((t.musts.toNat / 2 ^ (t.lists.toNat - k)) % 2 : Nat) : Int) == 1) = false := by rw [beq_eq_false_iff_ne]; omega
            rw [if_neg hb] at hstep
            repeat' first | refine .seq ?_ | refine .rg ?_ | refine .rd ?_ | refine .block ?_ | refine .scope ?_ | refine .skip ?_ | refine .label ?_ | refine .exit ?_ | refine .ret ?_ | refine .ct ?_ | refine .cf ?_ | refine .cy ?_ | refine .cn ?_ | (refine .cond rfl ?_ ?_ <;> intro hc) | refine A.nil_seq ?_ | refine .nl ?_ | refine .dd ?_ | refine .ys ?_ | refine .no ?_ | (refine A.guard rfl ?_ ?_ <;> intro hc) | refine .lb ?_ | refine .ln ?_ | refine .ls ?_ | refine .pv ?_ | refine .ix ?_ | refine .pt ?_ | refine .pf ?_ | refine .bx ?_ | refine .al ?_ | refine .st ?_ | refine .ad ?_ | refine .sb ?_ | refine .cl ?_ | refine .ck ?_ | refine A.shr rfl rfl (by omega) hsh ?_ | refine A.band (m := t.musts.toNat / 2 ^ (t.lists.toNat - k)) (n := 1) rfl rfl rfl rfl (by omega) (by decide) (and1 _) ?_ | refine A.callWC c3 rfl rfl rfl rfl (WeakL.cons (Weak.no (WeakL.refl _)) (WeakL.refl _)) ?_ | fail
            exact ⟨hk1, ⟨congrArg (AV.int .i64) n1, rfl, rfl, trivial⟩, rfl, wst_below _, (congrArg wst hstep).symm, trivial⟩
      · have d1 : decide (t.lists - (k : Int) ≥ 0) = false := decide_eq_false (by omega)
        have d1' : decide (0 ≤ t.lists - (k : Int)) = false := decide_eq_false (by omega)
        obtain rfl : k = t.lists.toNat + 1 := by omega
        repeat' first | refine .seq ?_ | refine .rg ?_ | refine .rd ?_ | refine .block ?_ | refine .scope ?_ | refine .skip ?_ | refine .label ?_ | refine .exit ?_ | refine .ret ?_ | refine .ct ?_ | refine .cf ?_ | refine .cy ?_ | refine .cn ?_ | (refine .cond rfl ?_ ?_ <;> intro hc) | refine A.nil_seq ?_ | refine .nl ?_ | refine .dd ?_ | refine .ys ?_ | refine .no ?_ | (refine A.guard rfl ?_ ?_ <;> intro hc) | refine .lb ?_ | refine .ln ?_ | refine .ls ?_ | refine .pv ?_ | refine .ix ?_ | refine .pt ?_ | refine .pf ?_ | refine .bx ?_ | refine .al ?_ | refine .st ?_ | refine .ad ?_ | refine .sb ?_ | refine .cl ?_ | refine .ck ?_ | fail
        exact ⟨rfl, rfl⟩
theorem weak_full {xs : List AV} {t : Tk} : WeakL [.slice xs t] [.slice xs .no] := WeakL.cons (Weak.no (WeakL.refl _)) (WeakL.refl _)
def wArg (fixed : Bool) (W : WS) (m : Mem) : WS := wVal m.v fixed (wMark [58] (wName m.name W))
def wArgs (fixed : Bool) (l : List Mem) (W : WS) : WS := if l = [] then W else wMark [41] (l.foldl (wArg fixed) (wMark [40] W))
def wDir (fixed : Bool) (W : WS) (d : Dirc) : WS := wArgs fixed d.args (wName d.name (wMark [64] W))
def wDirs (fixed : Bool) (l : List Dirc) (W : WS) : WS := l.foldl (wDir fixed) W
theorem len_arg (f : Bool) (W : WS) (m : Mem) : (wArg f W m).l.length ≤ W.l.length + 4 * m.size := by
  have h := len_val m.v f (wMark [58] (wName m.name W))
  rw [len_mark, len_name] at h
  have e : m.size = m.name.length + 2 + m.v.size := by cases m; rfl
  unfold wArg; omega
theorem len_argsF (f : Bool) (l : List Mem) (W : WS) : (l.foldl (wArg f) W).l.length ≤ W.l.length + 4 * sumSize Mem.size l := by
  have := fold_len (wArg f) (fun m => 4 * m.size) (len_arg f) l W
  rwa [sum_mul] at this
theorem len_args (f : Bool) (l : List Mem) (W : WS) : (wArgs f l W).l.length ≤ W.l.length + 4 * sumSize Mem.size l + 2 := by
  have h := len_argsF f l (wMark [40] W)
  rw [len_mark] at h
  unfold wArgs
  split
  · omega
  · rw [len_mark]; omega
theorem len_dir (f : Bool) (W : WS) (d : Dirc) : (wDir f W d).l.length ≤ W.l.length + 4 * d.size := by
  have h := len_args f d.args (wName d.name (wMark [64] W))
  rw [len_name, len_mark] at h
  unfold wDir Dirc.size; omega
theorem len_dirs (f : Bool) (l : List Dirc) (W : WS) : (wDirs f l W).l.length ≤ W.l.length + 4 * sumSize Dirc.size l := by
  have := fold_len (wDir f) (fun m => 4 * m.size) (len_dir f) l W
  rwa [sum_mul] at this
theorem ok_args (l : List Mem) (W : WS) : (wArgs true l W).ok = (W.ok && argsOk l) := by
  have h : ∀ (W : WS) (x : Mem), (wArg true W x).ok = (W.ok && (nameB x.name && valFix x.v)) := fun W x => by
    show ((W.ok && nameB x.name) && (plainV x.v && !(true && decide (varsV x.v [] ≠ [])))) = _
    unfold valFix
    rw [show (!(true && decide (varsV x.v [] ≠ []))) = decide (varsV x.v [] = []) by simp, Bool.and_assoc]
  unfold wArgs argsOk
  split
  next e => subst e; simp
  · show (l.foldl (wArg true) (wMark [40] W)).ok = _
    rw [fold_ok _ _ h]
    rfl
theorem ok_dirs (l : List Dirc) (W : WS) : (wDirs true l W).ok = (W.ok && l.all dirOk) :=
  fold_ok _ _ (fun W d => by
    show (wArgs true d.args (wName d.name (wMark [64] W))).ok = _
    rw [ok_args]
    show ((W.ok && nameB d.name) && argsOk d.args) = _
    unfold dirOk
    rw [Bool.and_assoc]) l W
theorem cArgs (W : WS) (fixed : Bool) (l : List Mem) (hl : sumSize Mem.size l ≤ 1048640) (ho : ∀ m ∈ l, m.ok) (hW : W.l.length + 4 * sumSize Mem.size l + 4 ≤ 1099511627776) : WC 278 (.ptr 0 0) [.bool fixed, .slice (l.map Mem.enc) .no] W (wArgs fixed l W) := by
  refine AFn.enter [] Tryz.func278 rfl rfl rfl rfl rfl (by decide) ?_
  have hll : (l.map Mem.enc).length = l.length := List.length_map ..
  have hL := sumSize_length (size := Mem.size) Mem.size_pos l
  unfold wArgs
  by_cases e : l = []
  · subst e
    rw [if_pos rfl]
    repeat' first | refine .seq ?_ | refine .rg ?_ | refine .rd ?_ | refine .block ?_ | refine .scope ?_ | refine .skip ?_ | refine .label ?_ | refine .exit ?_ | refine .ret ?_ | refine .ct ?_ | refine .cf ?_ | refine .cy ?_ | refine .cn ?_ | (refine .cond rfl ?_ ?_ <;> intro hc) | refine A.nil_seq ?_ | refine .nl ?_ | refine .dd ?_ | refine .ys ?_ | refine .no ?_ | (refine A.guard rfl ?_ ?_ <;> intro hc) | refine .lb ?_ | refine .ln ?_ | refine .ls ?_ | refine .pv ?_ | refine .ix ?_ | refine .pt ?_ | refine .pf ?_ | refine .bx ?_ | refine .al ?_ | refine .st ?_ | refine .ad ?_ | refine .sb ?_ | refine .cl ?_ | refine .ck ?_ | fail
    exact ⟨rfl, rfl⟩
  · rw [if_neg e]
    have e0 : ((l.length : Int) == 0) = false := by
      rw [beq_eq_false_iff_ne]
      intro h
      exact e (List.length_eq_zero_iff.1 (by omega))
    have e1 : (((l.map Mem.enc).length : Int) == 0) = false := by rw [hll]; exact e0
    have c1 := cMark W [40] (by omega)
    repeat' first | refine .seq ?_ | refine .rg ?_ | refine .rd ?_ | refine .block ?_ | refine .scope ?_ | refine .skip ?_ | refine .label ?_ | refine .exit ?_ | refine .ret ?_ | refine .ct ?_ | refine .cf ?_ | refine .cy ?_ | refine .cn ?_ | (refine .cond rfl ?_ ?_ <;> intro hc) | refine A.nil_seq ?_ | refine .nl ?_ | refine .dd ?_ | refine .ys ?_ | refine .no ?_ | (refine A.guard rfl ?_ ?_ <;> intro hc) | refine .lb ?_ | refine .ln ?_ | refine .ls ?_ | refine .pv ?_ | refine .ix ?_ | refine .pt ?_ | refine .pf ?_ | refine .bx ?_ | refine .al ?_ | refine .st ?_ | refine .ad ?_ | refine .sb ?_ | refine .cl ?_ | refine .ck ?_ | refine A.callWC c1 rfl rfl rfl rfl weak_full ?_ | fail
    refine HCode.forK l.length (fun k => [(16, .int .i64 k), (15, .int .i64 l.length), (14, .slice (l.map Mem.enc) .no), (1, .bool fixed), (0, .ptr 0 0)]) (fun k => wst ((l.take k).foldl (wArg fixed) (wMark [40] W))) (fun _ => True) ⟨rfl, by rw [← hll]; rfl, rfl, rfl, rfl, trivial⟩ rfl trivial fun k hk _ => ?_
    have hlen := len_argsF fixed (l.take k) (wMark [40] W)
    rw [len_mark] at hlen
    by_cases h1 : k < l.length
    · have d1 : decide ((k : Int) < (l.length : Int)) = true := by simp [h1]
      have x1 := map_get' (f := Mem.enc) h1
      have hst := wsum_le Mem.size l k h1
      have hme : l[k].size = l[k].name.length + 2 + l[k].v.size := by cases l[k]; rfl
      have hmo : l[k].v.ok := ho l[k] (List.getElem_mem h1)
      have hn := fold_take' (wArg fixed) h1 (wMark [40] W)
      generalize hWk : (l.take k).foldl (wArg fixed) (wMark [40] W) = Wk at *
      have c2 := cName Wk l[k].name (by omega) (by omega)
      have c3 := cMark (wName l[k].name Wk) [58] (by rw [len_name]; omega)
      have c4 := cValue (wMark [58] (wName l[k].name Wk)) l[k].v fixed (by omega) hmo (by rw [len_mark, len_name]; omega)
      repeat' first | refine .seq ?_ | refine .rg ?_ | refine .rd ?_ | refine .block ?_ | refine .scope ?_ | refine .skip ?_ | refine .label ?_ | refine .exit ?_ | refine .ret ?_ | refine .ct ?_ | refine .cf ?_ | refine .cy ?_ | refine .cn ?_ | (refine .cond rfl ?_ ?_ <;> intro hc) | refine A.nil_seq ?_ | refine .nl ?_ | refine .dd ?_ | refine .ys ?_ | refine .no ?_ | (refine A.guard rfl ?_ ?_ <;> intro hc) | refine .lb ?_ | refine .ln ?_ | refine .ls ?_ | refine .pv ?_ | refine .ix ?_ | refine .pt ?_ | refine .pf ?_ | refine .bx ?_ | refine .al ?_ | refine .st ?_ | refine .ad ?_ | refine .sb ?_ | refine .cl ?_ | refine .ck ?_ | refine A.callWC c2 rfl rfl rfl rfl (WeakL.refl _) ?_ | refine A.callWC c3 rfl rfl rfl rfl weak_full ?_ | refine A.callWC c4 rfl rfl rfl (by simp [AV.closedL, AV.closed, Val.closed]) (WeakL.refl _) ?_ | fail
      exact ⟨h1, ⟨rfl, rfl, rfl, rfl, rfl, trivial⟩, by simp [belowS, AV.low], wst_below _, (congrArg wst hn).symm, trivial⟩
    · have d1 : decide ((k : Int) < (l.length : Int)) = false := by simp; omega
      obtain rfl : k = l.length := by omega
      rw [List.take_length] at *
      have c2 := cMark (l.foldl (wArg fixed) (wMark [40] W)) [41] (by omega)
      repeat' first | refine .seq ?_ | refine .rg ?_ | refine .rd ?_ | refine .block ?_ | refine .scope ?_ | refine .skip ?_ | refine .label ?_ | refine .exit ?_ | refine .ret ?_ | refine .ct ?_ | refine .cf ?_ | refine .cy ?_ | refine .cn ?_ | (refine .cond rfl ?_ ?_ <;> intro hc) | refine A.nil_seq ?_ | refine .nl ?_ | refine .dd ?_ | refine .ys ?_ | refine .no ?_ | (refine A.guard rfl ?_ ?_ <;> intro hc) | refine .lb ?_ | refine .ln ?_ | refine .ls ?_ | refine .pv ?_ | refine .ix ?_ | refine .pt ?_ | refine .pf ?_ | refine .bx ?_ | refine .al ?_ | refine .st ?_ | refine .ad ?_ | refine .sb ?_ | refine .cl ?_ | refine .ck ?_ | refine A.callWC c2 rfl rfl rfl rfl weak_full ?_ | fail
      exact ⟨rfl, rfl⟩
theorem cDirs (W : WS) (fixed : Bool) (l : List Dirc) (hl : sumSize Dirc.size l ≤ 1048640) (ho : ∀ d ∈ l, d.ok) (hW : W.l.length + 4 * sumSize Dirc.size l + 4 ≤ 1099511627776) : WC 264 (.ptr 0 0) [.bool fixed, .slice (l.map Dirc.enc) .no] W (wDirs fixed l W) := by
  refine AFn.enter [] Tryz.func264 rfl rfl rfl rfl rfl (by decide) ?_
  have hll : (l.map Dirc.enc).length = l.length := List.length_map ..
  have hL := sumSize_length (size := Dirc.size) (fun d => by unfold Dirc.size; omega) l
  unfold wDirs
  repeat' first | refine .seq ?_ | refine .rg ?_ | refine .rd ?_ | refine .block ?_ | refine .scope ?_ | refine .skip ?_ | refine .label ?_ | refine .exit ?_ | refine .ret ?_ | refine .ct ?_ | refine .cf ?_ | refine .cy ?_ | refine .cn ?_ | (refine .cond rfl ?_ ?_ <;> intro hc) | refine A.nil_seq ?_ | refine .nl ?_ | refine .dd ?_ | refine .ys ?_ | refine .no ?_ | (refine A.guard rfl ?_ ?_ <;> intro hc) | refine .lb ?_ | refine .ln ?_ | refine .ls ?_ | refine .pv ?_ | refine .ix ?_ | refine .pt ?_ | refine .pf ?_ | refine .bx ?_ | refine .al ?_ | refine .st ?_ | refine .ad ?_ | refine .sb ?_ | refine .cl ?_ | refine .ck ?_ | fail
  refine HCode.forK l.length (fun k => [(10, .int .i64 k), (9, .int .i64 l.length), (8, .slice (l.map Dirc.enc) .no), (1, .bool fixed), (0, .ptr 0 0)]) (fun k => wst ((l.take k).foldl (wDir fixed) W)) (fun _ => True) ⟨rfl, by rw [← hll]; rfl, rfl, rfl, rfl, trivial⟩ rfl trivial fun k hk _ => ?_
  have hlen := len_dirs fixed (l.take k) W
  unfold wDirs at hlen
  by_cases h1 : k < l.length
  · have d1 : decide ((k : Int) < (l.length : Int)) = true := by simp [h1]
    have x1 := map_get' (f := Dirc.enc) h1
    have hst := wsum_le Dirc.size l k h1
    have hde : l[k].size = l[k].name.length + sumSize Mem.size l[k].args + 3 := rfl
    have hdo : ∀ m ∈ l[k].args, m.ok := ho l[k] (List.getElem_mem h1)
    have hn := fold_take' (wDir fixed) h1 W
    generalize hWk : (l.take k).foldl (wDir fixed) W = Wk at *
    have c2 := cMark Wk [64] (by omega)
    have c3 := cName (wMark [64] Wk) l[k].name (by omega) (by rw [len_mark]; omega)
    have c4 := cArgs (wName l[k].name (wMark [64] Wk)) fixed l[k].args (by omega) hdo (by rw [len_name, len_mark]; omega)
    repeat' first | refine .seq ?_ | refine .rg ?_ | refine .rd ?_ | refine .block ?_ | refine .scope ?_ | refine .skip ?_ | refine .label ?_ | refine .exit ?_ | refine .ret ?_ | refine .ct ?_ | refine .cf ?_ | refine .cy ?_ | refine .cn ?_ | (refine .cond rfl ?_ ?_ <;> intro hc) | refine A.nil_seq ?_ | refine .nl ?_ | refine .dd ?_ | refine .ys ?_ | refine .no ?_ | (refine A.guard rfl ?_ ?_ <;> intro hc) | refine .lb ?_ | refine .ln ?_ | refine .ls ?_ | refine .pv ?_ | refine .ix ?_ | refine .pt ?_ | refine .pf ?_ | refine .bx ?_ | refine .al ?_ | refine .st ?_ | refine .ad ?_ | refine .sb ?_ | refine .cl ?_ | refine .ck ?_ | refine A.callWC c2 rfl rfl rfl rfl weak_full ?_ | refine A.callWC c3 rfl rfl rfl rfl (WeakL.refl _) ?_ | refine A.callWC c4 rfl rfl rfl (by simp [AV.closedL, AV.closed, Mem.closedL]) (WeakL.refl _) ?_ | fail
    exact ⟨h1, ⟨rfl, rfl, rfl, rfl, rfl, trivial⟩, by simp [belowS, AV.low], wst_below _, (congrArg wst hn).symm, trivial⟩
  · have d1 : decide ((k : Int) < (l.length : Int)) = false := by simp; omega
    obtain rfl : k = l.length := by omega
    rw [List.take_length] at *
    repeat' first | refine .seq ?_ | refine .rg ?_ | refine .rd ?_ | refine .block ?_ | refine .scope ?_ | refine .skip ?_ | refine .label ?_ | refine .exit ?_ | refine .ret ?_ | refine .ct ?_ | refine .cf ?_ | refine .cy ?_ | refine .cn ?_ | (refine .cond rfl ?_ ?_ <;> intro hc) | refine A.nil_seq ?_ | refine .nl ?_ | refine .dd ?_ | refine .ys ?_ | refine .no ?_ | (refine A.guard rfl ?_ ?_ <;> intro hc) | refine .lb ?_ | refine .ln ?_ | refine .ls ?_ | refine .pv ?_ | refine .ix ?_ | refine .pt ?_ | refine .pf ?_ | refine .bx ?_ | refine .al ?_ | refine .st ?_ | refine .ad ?_ | refine .sb ?_ | refine .cl ?_ | refine .ck ?_ | fail
    exact ⟨rfl, rfl⟩
abbrev wst2 (W : WS) : St := ⟨[.cells W.cs, .cells [.ptr 0 0]], [.len W.l.length]⟩
theorem wst_below2 (W : WS) : (belowB 2 1 [.cells W.cs, .cells [.ptr 0 0]] && belowT 2 1 [.len W.l.length]) = true := by
  have : AV.lowL 2 1 W.cs = true := by simp [WS.cs, AV.lowL, AV.low]
  simp [belowB, Ob.low, this, belowT, Tok.low, AV.lowL, AV.low]
def wPar (W : WS) (p : Par) : WS := wDflt p.has p.d (wType p.t (wMark [58] (wName p.name W)))
def wPars (l : List Par) (W : WS) : WS := l.foldl wPar W
theorem len_par (W : WS) (p : Par) : (wPar W p).l.length ≤ W.l.length + 4 * p.size := by
  have h1 := len_dflt p.has p.d (wType p.t (wMark [58] (wName p.name W)))
  have h2 := len_type p.t (wMark [58] (wName p.name W))
  rw [len_mark, len_name] at h2
  unfold wPar Par.size Typ.size; omega
theorem len_pars (l : List Par) (W : WS) : (wPars l W).l.length ≤ W.l.length + 4 * sumSize Par.size l := by
  have := fold_len wPar (fun m => 4 * m.size) len_par l W
  rwa [sum_mul] at this
theorem ok_pars (l : List Par) (W : WS) : (wPars l W).ok = (W.ok && l.all parOk) :=
  fold_ok _ _ (fun W p => by
    show (wDflt p.has p.d (wType p.t (wMark [58] (wName p.name W)))).ok = _
    rw [ok_dflt, ok_type]
    show (((W.ok && nameB p.name) && rightT p.t) && dfltOk p) = _
    unfold parOk
    rw [Bool.and_assoc, Bool.and_assoc]) l W
theorem cPars (W : WS) (l : List Par) (hl : sumSize Par.size l ≤ 1048640) (ho : ∀ p ∈ l, p.ok) (hW : W.l.length + 4 * sumSize Par.size l + 4 ≤ 1099511627776) : WC 232 (.agg [.ptr 0 0]) [.slice (l.map Par.enc) .no] W (wPars l W) := by
  refine WC.of (AFn.enter [] Tryz.func232 rfl rfl rfl rfl rfl (by decide) ?_)
  have hll : (l.map Par.enc).length = l.length := List.length_map ..
  have hL := sumSize_length (size := Par.size) (fun d => by unfold Par.size; omega) l
  unfold wPars
  repeat' first | refine .seq ?_ | refine .rg ?_ | refine .rd ?_ | refine .block ?_ | refine .scope ?_ | refine .skip ?_ | refine .label ?_ | refine .exit ?_ | refine .ret ?_ | refine .ct ?_ | refine .cf ?_ | refine .cy ?_ | refine .cn ?_ | (refine .cond rfl ?_ ?_ <;> intro hc) | refine A.nil_seq ?_ | refine .nl ?_ | refine .dd ?_ | refine .ys ?_ | refine .no ?_ | (refine A.guard rfl ?_ ?_ <;> intro hc) | refine .lb ?_ | refine .ln ?_ | refine .ls ?_ | refine .pv ?_ | refine .ix ?_ | refine .pt ?_ | refine .pf ?_ | refine .bx ?_ | refine .al ?_ | refine .st ?_ | refine .ad ?_ | refine .sb ?_ | refine .cl ?_ | refine .ck ?_ | fail
  refine HCode.forK l.length (fun k => [(8, .int .i64 k), (7, .int .i64 l.length), (6, .slice (l.map Par.enc) .no), (2, .ptr 1 0)]) (fun k => wst2 ((l.take k).foldl wPar W)) (fun _ => True) ⟨rfl, by rw [← hll]; rfl, rfl, rfl, trivial⟩ rfl trivial fun k hk _ => ?_
  have hlen := len_pars (l.take k) W
  unfold wPars at hlen
  by_cases h1 : k < l.length
  · have d1 : decide ((k : Int) < (l.length : Int)) = true := by simp [h1]
    have x1 := map_get' (f := Par.enc) h1
    have hst := wsum_le Par.size l k h1
    have hpe : l[k].size = l[k].name.length + l[k].t.size + l[k].d.size + 3 := rfl
    have hte : l[k].t.size = l[k].t.name.length + 4 := rfl
    have hpo : l[k].d.ok := ho l[k] (List.getElem_mem h1)
    have hn := fold_take' wPar h1 W
    generalize hWk : (l.take k).foldl wPar W = Wk at *
    have c2 := cName Wk l[k].name (by omega) (by omega)
    have c3 := cMark (wName l[k].name Wk) [58] (by rw [len_name]; omega)
    have c4 := cType (wMark [58] (wName l[k].name Wk)) l[k].t (by omega) (by rw [len_mark, len_name]; omega)
    have l4 := len_type l[k].t (wMark [58] (wName l[k].name Wk))
    rw [len_mark, len_name] at l4
    have c5 := cDflt (wType l[k].t (wMark [58] (wName l[k].name Wk))) l[k].has l[k].d (by omega) hpo (by omega)
    repeat' first | refine .seq ?_ | refine .rg ?_ | refine .rd ?_ | refine .block ?_ | refine .scope ?_ | refine .skip ?_ | refine .label ?_ | refine .exit ?_ | refine .ret ?_ | refine .ct ?_ | refine .cf ?_ | refine .cy ?_ | refine .cn ?_ | (refine .cond rfl ?_ ?_ <;> intro hc) | refine A.nil_seq ?_ | refine .nl ?_ | refine .dd ?_ | refine .ys ?_ | refine .no ?_ | (refine A.guard rfl ?_ ?_ <;> intro hc) | refine .lb ?_ | refine .ln ?_ | refine .ls ?_ | refine .pv ?_ | refine .ix ?_ | refine .pt ?_ | refine .pf ?_ | refine .bx ?_ | refine .al ?_ | refine .st ?_ | refine .ad ?_ | refine .sb ?_ | refine .cl ?_ | refine .ck ?_ | refine A.callWC c2 rfl rfl rfl rfl (WeakL.refl _) ?_ | refine A.callWC c3 rfl rfl rfl rfl weak_full ?_ | refine A.callWC c4 rfl rfl rfl rfl (WeakL.refl _) ?_ | refine A.callWC c5 rfl rfl rfl (by simp [AV.closedL, AV.closed, Val.closed]) (WeakL.refl _) ?_ | fail
    exact ⟨h1, ⟨rfl, rfl, rfl, rfl, trivial⟩, by simp [belowS, AV.low], wst_below2 _, (congrArg wst2 hn).symm, trivial⟩
  · have d1 : decide ((k : Int) < (l.length : Int)) = false := by simp; omega
    obtain rfl : k = l.length := by omega
    rw [List.take_length] at *
    repeat' first | refine .seq ?_ | refine .rg ?_ | refine .rd ?_ | refine .block ?_ | refine .scope ?_ | refine .skip ?_ | refine .label ?_ | refine .exit ?_ | refine .ret ?_ | refine .ct ?_ | refine .cf ?_ | refine .cy ?_ | refine .cn ?_ | (refine .cond rfl ?_ ?_ <;> intro hc) | refine A.nil_seq ?_ | refine .nl ?_ | refine .dd ?_ | refine .ys ?_ | refine .no ?_ | (refine A.guard rfl ?_ ?_ <;> intro hc) | refine .lb ?_ | refine .ln ?_ | refine .ls ?_ | refine .pv ?_ | refine .ix ?_ | refine .pt ?_ | refine .pf ?_ | refine .bx ?_ | refine .al ?_ | refine .st ?_ | refine .ad ?_ | refine .sb ?_ | refine .cl ?_ | refine .ck ?_ | fail
    exact ⟨rfl, rfl, rfl⟩
end Go.Proofs.YtegakkonlhmeaaaGreatDoor
