/-
  Contracts and plain facts for a law, joined.
-/
import Derived.Test.YtegakkonlhmeaaaGreatDoorGSCA8
import Derived.Test.YtegakkonlhmeaaaGreatDoorGSCA2
import Derived.Test.YtegakkonlhmeaaaGreatDoorGSCA4
import Derived.Test.YtegakkonlhmeaaaGreatDoorAvRen4
set_option maxRecDepth 100000
set_option maxHeartbeats 16000000
set_option linter.unusedVariables false
set_option linter.unusedSimpArgs false
set_option linter.unusedSectionVars false
namespace Go.Av
open Go
section
variable [Globals]
variable {P : Program} {all : Array Oper} {draw : Bool} {K : AX → Slots → St → Prop} {rest : List Oper} {acc : List Tag} {s : Slots} {σ : St} {ty : TypeId} {pos : String} {af : Array Edge}
theorem A.max2 {d : Tmp} {x y : Operand} {tys : Array TypeId} {m n r : Int} (hx : ev? s x = some (.int .i64 m)) (hy : ev? s y = some (.int .i64 n)) (hr : (if n > m then n else m) = r)
    (k : AOps P all draw K rest (.pure :: acc) ((d, .int .i64 r) :: s) σ) : AOps P all draw K (⟨some d, .call ⟨.builtin .max, #[x, y], tys⟩, ty, pos, af, none⟩ :: rest) acc s σ :=
  A.step rfl (tpure fun g w a ho => by
    have h1 : a.eval x = .int .i64 m := op1 hx (by simp [Op.operands, Call.operands]) ho
    have h2 : a.eval y = .int .i64 n := op1 hy (by simp [Op.operands, Call.operands]) ho
    exact ⟨.int .i64 r, by subst hr; simp [execOp, resolve, invoke, builtin, Builtin.max_, Builtin.max2, h1, h2, Result.andThen], rfl⟩) k
theorem A.nilPtr {d : Tmp} {x : Operand} {i off : Nat} (hx : ev? s x = some (.ptr i off)) (k : AOps P all draw K rest (.pure :: acc) ((d, .ptr i off) :: s) σ) : AOps P all draw K (⟨some d, .nilCheck x, ty, pos, af, none⟩ :: rest) acc s σ :=
  A.step rfl (tpure fun g w a ho => by
    obtain ⟨b, hb, e⟩ := op1 hx (by simp [Op.operands]) ho
    exact ⟨_, by simp only [execOp, e]; rfl, ⟨b, hb, rfl⟩⟩) k
theorem A.callW {d : Option Tmp} {f : FuncId} {args : Array Operand} {tys : Array TypeId} {x0 : AV} {vals vals0 cs cs' : List AV} {n n' : Nat} {B : List Ob} {T : List Tok} {v : AV}
    (hp : AFn P f (x0 :: vals0) ⟨[.cells cs], [.len n]⟩ (fun e σ1 => e = .ret v ∧ σ1 = ⟨[.cells cs'], [.len n']⟩)) (ha : evsK s args.toList some = some (x0 :: vals)) (hσ : σ = ⟨.cells cs :: B, .len n :: T⟩)
    (hx0 : x0.low 1 1 = true) (hc : AV.closedL vals0 = true) (hcs : AV.lowL 1 1 cs = true) (hcs' : AV.lowL 1 1 cs' = true) (hv : v.low 1 1 = true) (hw : WeakL vals vals0)
    (kk : AOps P all draw K rest (.all :: acc) (putS d v s) ⟨.cells cs' :: B, .len n' :: T⟩) : AOps P all draw K (⟨d, .call ⟨.value (.func f), args, tys⟩, ty, pos, af, none⟩ :: rest) acc s σ := by
  subst hσ
  have hfb : ∀ i, i < 1 → emb (B.length + 1) [0] i = i := fun i hi => by obtain rfl : i = 0 := by omega
                                                                         simp [emb]
  have hft : ∀ i, i < 1 → emb (T.length + 1) [0] i = i := fun i hi => by obtain rfl : i = 0 := by omega
                                                                         simp [emb]
  have hob : ∀ ys : List AV, AV.lowL 1 1 ys = true → Ob.ren (emb (B.length + 1) [0]) (emb (T.length + 1) [0]) (.cells ys) = .cells ys := fun ys h1 => by
    rw [Ob.ren, AV.renL_same hfb hft ys h1]
  refine A.callR (nB := B.length + 1) (nT := T.length + 1) (B0 := [.cells cs]) (T0 := [.len n]) (B1 := [.cells cs']) (T1 := [.len n']) (v0 := v) [0] [0] ha hp rfl rfl ⟨by simp, by simp⟩ ⟨by simp, by simp⟩ rfl rfl (fun j i' ob h ho => ?_) (fun j i' t h ht => ?_) ?_ rfl ?_ ?_ (AV.ren_same hfb hft v hv) (B' := .cells cs' :: B) (T' := .len n' :: T) ?_ ?_ kk
  · cases j with
    | zero =>
      simp at h ho
      subst h; subst ho
      rw [hob _ hcs]
      rfl
    | succ j => simp at h
  · cases j with
    | zero =>
      simp at h ht
      subst h; subst ht
      rfl
    | succ j => simp at h
  · simp only [List.length_cons, List.length_nil, belowB, Ob.low, Bool.and_true]
    exact hcs
  · simp only [List.length_cons, List.length_nil, AV.lowL, AV.lowL_of_closed _ _ _ hc, Bool.and_true]
    exact hx0
  · rw [AV.renL, AV.renL_closed _ _ _ hc, AV.ren_same hfb hft x0 hx0]
    exact WeakL.cons (Weak.refl _) hw
  · simp only [merge, upd, List.map_cons, List.map_nil, hob _ hcs', List.length_cons, List.length_nil, List.drop_succ_cons, List.drop_zero, List.append_nil, List.set_cons_zero]
  · simp only [merge, upd, List.map_cons, List.map_nil, Tok.ren, List.length_cons, List.length_nil, List.drop_succ_cons, List.drop_zero, List.append_nil, List.set_cons_zero]
end
end Go.Av
namespace Go.Proofs.YtegakkonlhmeaaaGreatDoor
open Go Go.Av
attribute [local irreducible] HCode AOps PFn AFn Av.Step TStep
structure Tkn where
  kind : Int
  s : Str
def Tkn.enc (t : Tkn) : AV := .agg [.int .i64 t.kind, .str t.s]
theorem Tkn.closed (t : Tkn) : t.enc.closed = true := rfl
theorem Tkn.closedL (l : List Tkn) : AV.closedL (l.map Tkn.enc) = true := closedL_map Tkn.closed l
@[simp] theorem lowL_Tkn (n m : Nat) (l : List Tkn) : AV.lowL n m (List.map Tkn.enc l) = true := AV.lowL_of_closed n m _ (Tkn.closedL l)
theorem Tkn.fitsAll (l : List Tkn) : Av.fitsAll true 2 (l.map Tkn.enc) = true := fitsAll_map (fun _ => rfl) l
def tP (s : Str) : Tkn := ⟨1, s⟩
def tW (s : Str) : Tkn := ⟨2, s⟩
def boolS (b : Bool) : Str := if b = true then sTrue else sFalse
mutual
def toksV : Val → List Tkn
  | .mk k n s l m => if k = 0 then [tW sNull] else if k = 1 then [tW (boolS (n == 1))] else if k = 2 then [⟨3, Lib.itoa n⟩] else if k = 3 then [⟨numOf s, s⟩] else if k = 4 then [⟨5, s⟩] else if k = 5 then [tW s]
    else if k = 8 then [tP [36], tW s] else if k = 6 then tP [91] :: (toksL l ++ [tP [93]]) else tP [123] :: (toksM m ++ [tP [125]])
def toksL : List Val → List Tkn
  | [] => []
  | v :: l => toksV v ++ toksL l
def toksM : List Mem → List Tkn
  | [] => []
  | .mk name v :: m => tW name :: tP [58] :: (toksV v ++ toksM m)
end
theorem toksV_eq (v : Val) : toksV v = if v.kind = 0 then [tW sNull] else if v.kind = 1 then [tW (boolS (v.n == 1))] else if v.kind = 2 then [⟨3, Lib.itoa v.n⟩] else if v.kind = 3 then [⟨numOf v.s, v.s⟩] else if v.kind = 4 then [⟨5, v.s⟩] else if v.kind = 5 then [tW v.s]
    else if v.kind = 8 then [tP [36], tW v.s] else if v.kind = 6 then tP [91] :: (toksL v.l ++ [tP [93]]) else tP [123] :: (toksM v.m ++ [tP [125]]) := by
  cases v; rw [toksV]; rfl
mutual
theorem toksV_len : ∀ v : Val, (toksV v).length ≤ 2 * v.size
  | .mk k n s l m => by
    have h1 := toksL_len l
    have h2 := toksM_len m
    rw [toksV, Val.size]
    repeat' split
    all_goals simp only [List.length_cons, List.length_append, List.length_nil]; omega
theorem toksL_len : ∀ l : List Val, (toksL l).length ≤ 2 * Val.sizeL l
  | [] => by rw [toksL]; simp
  | v :: l => by
    have h1 := toksV_len v
    have h2 := toksL_len l
    rw [toksL, Val.sizeL, List.length_append]; omega
theorem toksM_len : ∀ m : List Mem, (toksM m).length ≤ 2 * Val.sizeM m
  | [] => by rw [toksM]; simp
  | .mk _ v :: m => by
    have h1 := toksV_len v
    have h2 := toksM_len m
    rw [toksM, Val.sizeM, List.length_cons, List.length_cons, List.length_append]; omega
end
theorem toksL_app : ∀ a b : List Val, toksL (a ++ b) = toksL a ++ toksL b
  | [], b => by rw [toksL]; rfl
  | x :: a, b => by rw [List.cons_append, toksL, toksL, toksL_app a b, List.append_assoc]
theorem toksM_app : ∀ a b : List Mem, toksM (a ++ b) = toksM a ++ toksM b
  | [], b => by rw [toksM]; rfl
  | .mk _ _ :: a, b => by rw [List.cons_append, toksM, toksM, toksM_app a b]; simp
theorem toksL_take {l : List Val} {k : Nat} (h : k < l.length) : toksL (l.take (k + 1)) = toksL (l.take k) ++ toksV l[k] := by
  rw [List.take_succ_eq_append_getElem h, toksL_app, toksL, toksL, List.append_nil]
theorem toksM_take {l : List Mem} {k : Nat} (h : k < l.length) : toksM (l.take (k + 1)) = (toksM (l.take k) ++ [tW l[k].name, tP [58]]) ++ toksV l[k].v := by
  rw [List.take_succ_eq_append_getElem h, toksM_app]
  cases l[k]; rw [toksM, toksM]; simp [Mem.name, Mem.v]
theorem max_int (a b : Nat) : (if (b : Int) > (a : Int) then (b : Int) else (a : Int)) = ((max a b : Nat) : Int) := by
  split <;> omega
theorem vDepth : ∀ N : Nat, N ≤ 68719476736 → ∀ v : Val, v.size ≤ N → PFn Tryz.prog 280 [v.enc] (.int .i64 (depV v))
  | 0, _, v, hv => absurd hv (by have := v.size_pos; omega)
  | N + 1, hN, v, hv => by
    have ih := vDepth N (by omega)
    have hll := v.l_len
    have hml := v.m_len
    have hsp := v.size_parts
    have hd1 := depL_le v.l
    have hd2 := depM_le v.m
    refine AFn.plain rfl (by simp [AV.closedL, Val.closed]) (AFn.enter [2] Tryz.func280 rfl rfl rfl rfl rfl (by decide) ?_)
    rw [depV_eq]
    by_cases k6 : v.kind = 6
    · have q6 : (v.kind == 6) = true := by simp [k6]
      rw [if_pos k6]
      repeat' first | refine .br ?_ | refine .seq ?_ | refine .rg ?_ | refine .rd ?_ | refine .block ?_ | refine .scope ?_ | refine .skip ?_ | refine .label ?_ | refine .exit ?_ | refine .ret ?_ | refine .ct ?_ | refine .cf ?_ | refine .cy ?_ | refine .cn ?_ | (refine .cond rfl ?_ ?_ <;> intro hc) | refine A.nil_seq ?_ | refine .nl ?_ | refine .dd ?_ | refine .ys ?_ | refine .no ?_ | (refine A.guard rfl ?_ ?_ <;> intro hc) | refine .lb ?_ | refine .ln ?_ | refine .ls ?_ | refine .pv ?_ | refine .ix ?_ | refine .pt ?_ | refine .pf ?_ | refine .bx ?_ | refine .al ?_ | refine .st ?_ | refine .ad ?_ | refine .sb ?_ | refine .mf ?_ | refine .cl ?_ | refine .cw ?_ | refine .ck ?_ | fail
      refine HCode.forK v.l.length (fun k => [(15, .int .i64 k), (14, .int .i64 v.lv.length), (13, .slice v.lv .no), (3, .int .i64 (depL (v.l.take k) : Nat))])
        (fun k => ⟨[], []⟩) (fun _ => True) ⟨rfl, rfl, rfl, rfl, trivial⟩ rfl trivial fun k hk _ => ?_
      by_cases h1 : k < v.l.length
      · have d1 : decide ((k : Int) < (v.lv.length : Int)) = true := by rw [v.lv_len]; simp [h1]
        have x1 := Val.lv_get h1
        have hc := ih v.l[k] (by have := Val.size_l h1; omega)
        have hm := max_int (depL (v.l.take k)) (depV v.l[k])
        rw [← depL_take h1] at hm
        repeat' first | refine .seq ?_ | refine .rg ?_ | refine .rd ?_ | refine .block ?_ | refine .scope ?_ | refine .skip ?_ | refine .label ?_ | refine .exit ?_ | refine .ret ?_ | refine .ct ?_ | refine .cf ?_ | refine .cy ?_ | refine .cn ?_ | (refine .cond rfl ?_ ?_ <;> intro hc) | refine A.nil_seq ?_ | refine .nl ?_ | refine .dd ?_ | refine .ys ?_ | refine .no ?_ | (refine A.guard rfl ?_ ?_ <;> intro hc) | refine .lb ?_ | refine .ln ?_ | refine .ls ?_ | refine .pv ?_ | refine .ix ?_ | refine .pt ?_ | refine .pf ?_ | refine .bx ?_ | refine .al ?_ | refine .st ?_ | refine .ad ?_ | refine .sb ?_ | refine .mf ?_ | refine .cl ?_ | refine .cw ?_ | refine .ck ?_ | refine A.max2 rfl rfl hm ?_ | fail
        exact ⟨h1, ⟨rfl, rfl, rfl, rfl, trivial⟩, by simp [belowS, AV.low], rfl, rfl, trivial⟩
      · have d1 : decide ((k : Int) < (v.lv.length : Int)) = false := by rw [v.lv_len]; simp; omega
        obtain rfl : k = v.l.length := by omega
        rw [List.take_length]
        repeat' first | refine .seq ?_ | refine .rg ?_ | refine .rd ?_ | refine .block ?_ | refine .scope ?_ | refine .skip ?_ | refine .label ?_ | refine .exit ?_ | refine .ret ?_ | refine .ct ?_ | refine .cf ?_ | refine .cy ?_ | refine .cn ?_ | (refine .cond rfl ?_ ?_ <;> intro hc) | refine A.nil_seq ?_ | refine .nl ?_ | refine .dd ?_ | refine .ys ?_ | refine .no ?_ | (refine A.guard rfl ?_ ?_ <;> intro hc) | refine .lb ?_ | refine .ln ?_ | refine .ls ?_ | refine .pv ?_ | refine .ix ?_ | refine .pt ?_ | refine .pf ?_ | refine .bx ?_ | refine .al ?_ | refine .st ?_ | refine .ad ?_ | refine .sb ?_ | refine .mf ?_ | refine .cl ?_ | refine .cw ?_ | refine .ck ?_ | fail
        exact Fin.ret1 rfl (Weak.eq (congrArg (AV.int .i64) (by omega)))
    · have q6 : (v.kind == 6) = false := by simp [k6]
      rw [if_neg k6]
      by_cases k7 : v.kind = 7
      · have q7 : (v.kind == 7) = true := by simp [k7]
        rw [if_pos k7]
        repeat' first | refine .br ?_ | refine .seq ?_ | refine .rg ?_ | refine .rd ?_ | refine .block ?_ | refine .scope ?_ | refine .skip ?_ | refine .label ?_ | refine .exit ?_ | refine .ret ?_ | refine .ct ?_ | refine .cf ?_ | refine .cy ?_ | refine .cn ?_ | (refine .cond rfl ?_ ?_ <;> intro hc) | refine A.nil_seq ?_ | refine .nl ?_ | refine .dd ?_ | refine .ys ?_ | refine .no ?_ | (refine A.guard rfl ?_ ?_ <;> intro hc) | refine .lb ?_ | refine .ln ?_ | refine .ls ?_ | refine .pv ?_ | refine .ix ?_ | refine .pt ?_ | refine .pf ?_ | refine .bx ?_ | refine .al ?_ | refine .st ?_ | refine .ad ?_ | refine .sb ?_ | refine .mf ?_ | refine .cl ?_ | refine .cw ?_ | refine .ck ?_ | fail
        refine HCode.forK v.m.length (fun k => [(29, .int .i64 k), (28, .int .i64 v.mv.length), (27, .slice v.mv .no), (3, .int .i64 (depM (v.m.take k) : Nat))])
          (fun k => ⟨[], []⟩) (fun _ => True) ⟨rfl, rfl, rfl, rfl, trivial⟩ rfl trivial fun k hk _ => ?_
        by_cases h1 : k < v.m.length
        · have d1 : decide ((k : Int) < (v.mv.length : Int)) = true := by rw [v.mv_len]; simp [h1]
          have x1 := Val.mv_get h1
          have hc := ih v.m[k].v (by have := Val.size_m h1; omega)
          have hm := max_int (depM (v.m.take k)) (depV v.m[k].v)
          rw [← depM_take h1] at hm
          repeat' first | refine .seq ?_ | refine .rg ?_ | refine .rd ?_ | refine .block ?_ | refine .scope ?_ | refine .skip ?_ | refine .label ?_ | refine .exit ?_ | refine .ret ?_ | refine .ct ?_ | refine .cf ?_ | refine .cy ?_ | refine .cn ?_ | (refine .cond rfl ?_ ?_ <;> intro hc) | refine A.nil_seq ?_ | refine .nl ?_ | refine .dd ?_ | refine .ys ?_ | refine .no ?_ | (refine A.guard rfl ?_ ?_ <;> intro hc) | refine .lb ?_ | refine .ln ?_ | refine .ls ?_ | refine .pv ?_ | refine .ix ?_ | refine .pt ?_ | refine .pf ?_ | refine .bx ?_ | refine .al ?_ | refine .st ?_ | refine .ad ?_ | refine .sb ?_ | refine .mf ?_ | refine .cl ?_ | refine .cw ?_ | refine .ck ?_ | refine A.max2 rfl rfl hm ?_ | fail
          exact ⟨h1, ⟨rfl, rfl, rfl, rfl, trivial⟩, by simp [belowS, AV.low], rfl, rfl, trivial⟩
        · have d1 : decide ((k : Int) < (v.mv.length : Int)) = false := by rw [v.mv_len]; simp; omega
          obtain rfl : k = v.m.length := by omega
          rw [List.take_length]
          repeat' first | refine .seq ?_ | refine .rg ?_ | refine .rd ?_ | refine .block ?_ | refine .scope ?_ | refine .skip ?_ | refine .label ?_ | refine .exit ?_ | refine .ret ?_ | refine .ct ?_ | refine .cf ?_ | refine .cy ?_ | refine .cn ?_ | (refine .cond rfl ?_ ?_ <;> intro hc) | refine A.nil_seq ?_ | refine .nl ?_ | refine .dd ?_ | refine .ys ?_ | refine .no ?_ | (refine A.guard rfl ?_ ?_ <;> intro hc) | refine .lb ?_ | refine .ln ?_ | refine .ls ?_ | refine .pv ?_ | refine .ix ?_ | refine .pt ?_ | refine .pf ?_ | refine .bx ?_ | refine .al ?_ | refine .st ?_ | refine .ad ?_ | refine .sb ?_ | refine .mf ?_ | refine .cl ?_ | refine .cw ?_ | refine .ck ?_ | fail
          exact Fin.ret1 rfl (Weak.eq (congrArg (AV.int .i64) (by omega)))
      · have q7 : (v.kind == 7) = false := by simp [k7]
        rw [if_neg k7]
        repeat' first | refine .br ?_ | refine .seq ?_ | refine .rg ?_ | refine .rd ?_ | refine .block ?_ | refine .scope ?_ | refine .skip ?_ | refine .label ?_ | refine .exit ?_ | refine .ret ?_ | refine .ct ?_ | refine .cf ?_ | refine .cy ?_ | refine .cn ?_ | (refine .cond rfl ?_ ?_ <;> intro hc) | refine A.nil_seq ?_ | refine .nl ?_ | refine .dd ?_ | refine .ys ?_ | refine .no ?_ | (refine A.guard rfl ?_ ?_ <;> intro hc) | refine .lb ?_ | refine .ln ?_ | refine .ls ?_ | refine .pv ?_ | refine .ix ?_ | refine .pt ?_ | refine .pf ?_ | refine .bx ?_ | refine .al ?_ | refine .st ?_ | refine .ad ?_ | refine .sb ?_ | refine .mf ?_ | refine .cl ?_ | refine .cw ?_ | refine .ck ?_ | fail
        exact Fin.ret1 rfl (Weak.refl _)
theorem vPlain (v : Val) (hv : v.size ≤ 68719476736) : PFn Tryz.prog 288 [v.enc] (.bool (plainV v)) := by
  have h := vall 19 nameB (fun s hs => lName s (by omega)) v.size hv v (Nat.le_refl _)
  have h2 := vDepth v.size hv v (Nat.le_refl _)
  refine AFn.plain rfl (by simp [AV.closedL, Val.closed]) (AFn.enter [2] Tryz.func288 rfl rfl rfl rfl rfl (by decide) ?_)
  unfold plainV
  have hd : decide (depV v ≤ 16) = decide ((depV v : Int) ≤ 16) := by simp only [decide_eq_decide]; omega
  rw [hd]
  cases h0 : allV nameB v with
  | true =>
    rw [h0] at h
    repeat' first | refine A.box_r rfl rfl ?_ | refine .seq ?_ | refine .rg ?_ | refine .rd ?_ | refine .block ?_ | refine .scope ?_ | refine .skip ?_ | refine .label ?_ | refine .exit ?_ | refine .ret ?_ | refine .ct ?_ | refine .cf ?_ | refine .cy ?_ | refine .cn ?_ | (refine .cond rfl ?_ ?_ <;> intro hc) | refine A.nil_seq ?_ | refine .nl ?_ | refine .dd ?_ | refine .ys ?_ | refine .no ?_ | (refine A.guard rfl ?_ ?_ <;> intro hc) | refine .lb ?_ | refine .ln ?_ | refine .ls ?_ | refine .pv ?_ | refine .ix ?_ | refine .pt ?_ | refine .pf ?_ | refine .bx ?_ | refine .al ?_ | refine .st ?_ | refine .ad ?_ | refine .sb ?_ | refine .mf ?_ | refine .cl ?_ | refine .cw ?_ | refine .ck ?_ | refine A.call rfl h (WeakL.refl _) ?_ | refine A.call rfl h2 (WeakL.refl _) ?_ | refine A.leq rfl rfl ?_ | fail
    exact Fin.ret1 rfl (Weak.refl _)
  | false =>
    rw [h0] at h
    repeat' first | refine A.box_r rfl rfl ?_ | refine .seq ?_ | refine .rg ?_ | refine .rd ?_ | refine .block ?_ | refine .scope ?_ | refine .skip ?_ | refine .label ?_ | refine .exit ?_ | refine .ret ?_ | refine .ct ?_ | refine .cf ?_ | refine .cy ?_ | refine .cn ?_ | (refine .cond rfl ?_ ?_ <;> intro hc) | refine A.nil_seq ?_ | refine .nl ?_ | refine .dd ?_ | refine .ys ?_ | refine .no ?_ | (refine A.guard rfl ?_ ?_ <;> intro hc) | refine .lb ?_ | refine .ln ?_ | refine .ls ?_ | refine .pv ?_ | refine .ix ?_ | refine .pt ?_ | refine .pf ?_ | refine .bx ?_ | refine .al ?_ | refine .st ?_ | refine .ad ?_ | refine .sb ?_ | refine .mf ?_ | refine .cl ?_ | refine .cw ?_ | refine .ck ?_ | refine A.call rfl h (WeakL.refl _) ?_ | fail
    exact Fin.ret1 rfl (Weak.refl _)
theorem fmtBool0 (b : Bool) : PFn Tryz.prog 294 [.bool b] (.str (boolS b)) := by
  refine AFn.plain rfl rfl (AFn.enter [2] Tryz.func294 rfl rfl rfl rfl rfl (by decide) ?_)
  cases b with
  | true =>
    repeat' first | refine .seq ?_ | refine .rg ?_ | refine .rd ?_ | refine .block ?_ | refine .scope ?_ | refine .skip ?_ | refine .label ?_ | refine .exit ?_ | refine .ret ?_ | refine .ct ?_ | refine .cf ?_ | refine .cy ?_ | refine .cn ?_ | (refine .cond rfl ?_ ?_ <;> intro hc) | refine A.nil_seq ?_ | refine .nl ?_ | refine .dd ?_ | refine .ys ?_ | refine .no ?_ | (refine A.guard rfl ?_ ?_ <;> intro hc) | refine .lb ?_ | refine .ln ?_ | refine .ls ?_ | refine .pv ?_ | refine .ix ?_ | refine .pt ?_ | refine .pf ?_ | refine .bx ?_ | refine .al ?_ | refine .st ?_ | refine .ad ?_ | refine .sb ?_ | refine .mf ?_ | refine .cl ?_ | refine .cw ?_ | refine .ck ?_ | fail
    exact Fin.ret1 rfl (Weak.refl _)
  | false =>
    repeat' first | refine .seq ?_ | refine .rg ?_ | refine .rd ?_ | refine .block ?_ | refine .scope ?_ | refine .skip ?_ | refine .label ?_ | refine .exit ?_ | refine .ret ?_ | refine .ct ?_ | refine .cf ?_ | refine .cy ?_ | refine .cn ?_ | (refine .cond rfl ?_ ?_ <;> intro hc) | refine A.nil_seq ?_ | refine .nl ?_ | refine .dd ?_ | refine .ys ?_ | refine .no ?_ | (refine A.guard rfl ?_ ?_ <;> intro hc) | refine .lb ?_ | refine .ln ?_ | refine .ls ?_ | refine .pv ?_ | refine .ix ?_ | refine .pt ?_ | refine .pf ?_ | refine .bx ?_ | refine .al ?_ | refine .st ?_ | refine .ad ?_ | refine .sb ?_ | refine .mf ?_ | refine .cl ?_ | refine .cw ?_ | refine .ck ?_ | fail
    exact Fin.ret1 rfl (Weak.refl _)
theorem fmtBool (b : Bool) : PFn Tryz.prog 292 [.bool b] (.str (boolS b)) := by
  have h := fmtBool0 b
  refine AFn.plain rfl rfl (AFn.enter [2] Tryz.func292 rfl rfl rfl rfl rfl (by decide) ?_)
  repeat' first | refine .seq ?_ | refine .rg ?_ | refine .rd ?_ | refine .block ?_ | refine .scope ?_ | refine .skip ?_ | refine .label ?_ | refine .exit ?_ | refine .ret ?_ | refine .ct ?_ | refine .cf ?_ | refine .cy ?_ | refine .cn ?_ | (refine .cond rfl ?_ ?_ <;> intro hc) | refine A.nil_seq ?_ | refine .nl ?_ | refine .dd ?_ | refine .ys ?_ | refine .no ?_ | (refine A.guard rfl ?_ ?_ <;> intro hc) | refine .lb ?_ | refine .ln ?_ | refine .ls ?_ | refine .pv ?_ | refine .ix ?_ | refine .pt ?_ | refine .pf ?_ | refine .bx ?_ | refine .al ?_ | refine .st ?_ | refine .ad ?_ | refine .sb ?_ | refine .mf ?_ | refine .cl ?_ | refine .cw ?_ | refine .ck ?_ | fail
  exact Fin.ret1 rfl (Weak.refl _)
theorem v_word (s : Str) : PFn Tryz.prog 291 [.str s] (tW s).enc := by
  refine AFn.plain rfl rfl (AFn.enterR [.cell 2 192] Tryz.func291 rfl rfl rfl rfl rfl ?_)
  repeat' first | refine .seq ?_ | refine .rg ?_ | refine .rd ?_ | refine .block ?_ | refine .scope ?_ | refine .skip ?_ | refine .label ?_ | refine .exit ?_ | refine .ret ?_ | refine .ct ?_ | refine .cf ?_ | refine .cy ?_ | refine .cn ?_ | (refine .cond rfl ?_ ?_ <;> intro hc) | refine A.nil_seq ?_ | refine .nl ?_ | refine .dd ?_ | refine .ys ?_ | refine .no ?_ | (refine A.guard rfl ?_ ?_ <;> intro hc) | refine .lb ?_ | refine .ln ?_ | refine .ls ?_ | refine .pv ?_ | refine .ix ?_ | refine .pt ?_ | refine .pf ?_ | refine .bx ?_ | refine .al ?_ | refine .st ?_ | refine .ad ?_ | refine .sb ?_ | refine .mf ?_ | refine .cl ?_ | refine .cw ?_ | refine .ck ?_ | fail
  exact FinR.ret1 rfl (Weak.refl _)
theorem v_punct (s : Str) : PFn Tryz.prog 293 [.str s] (tP s).enc := by
  refine AFn.plain rfl rfl (AFn.enterR [.cell 2 192] Tryz.func293 rfl rfl rfl rfl rfl ?_)
  repeat' first | refine .seq ?_ | refine .rg ?_ | refine .rd ?_ | refine .block ?_ | refine .scope ?_ | refine .skip ?_ | refine .label ?_ | refine .exit ?_ | refine .ret ?_ | refine .ct ?_ | refine .cf ?_ | refine .cy ?_ | refine .cn ?_ | (refine .cond rfl ?_ ?_ <;> intro hc) | refine A.nil_seq ?_ | refine .nl ?_ | refine .dd ?_ | refine .ys ?_ | refine .no ?_ | (refine A.guard rfl ?_ ?_ <;> intro hc) | refine .lb ?_ | refine .ln ?_ | refine .ls ?_ | refine .pv ?_ | refine .ix ?_ | refine .pt ?_ | refine .pf ?_ | refine .bx ?_ | refine .al ?_ | refine .st ?_ | refine .ad ?_ | refine .sb ?_ | refine .mf ?_ | refine .cl ?_ | refine .cw ?_ | refine .ck ?_ | fail
  exact FinR.ret1 rfl (Weak.refl _)
theorem okL_mem : ∀ {l : List Val} {x : Val}, Val.okL l → x ∈ l → x.ok
  | v :: l, x, h, hx => by
    rw [Val.okL] at h
    cases hx with
    | head => exact h.1
    | tail _ hx => exact okL_mem h.2 hx
theorem okM_mem : ∀ {l : List Mem} {x : Mem}, Val.okM l → x ∈ l → x.v.ok
  | .mk _ v :: l, x, h, hx => by
    rw [Val.okM] at h
    cases hx with
    | head => exact h.1
    | tail _ hx => exact okM_mem h.2 hx
theorem Val.ok_l {v : Val} (h : v.ok) {x : Val} (hx : x ∈ v.l) : x.ok := by
  cases v; rw [Val.ok] at h; exact okL_mem h.2.2.1 hx
theorem Val.ok_m {v : Val} (h : v.ok) {x : Mem} (hx : x ∈ v.m) : x.v.ok := by
  cases v; rw [Val.ok] at h; exact okM_mem h.2.2.2 hx
theorem Val.ok_n {v : Val} (h : v.ok) : -9223372036854775808 ≤ v.n ∧ v.n ≤ 9223372036854775807 := by
  cases v
  rw [Val.ok] at h
  have := h.2.1
  unfold Lit.wf IntKind.min IntKind.max at this
  rw [Bool.and_eq_true, decide_eq_true_eq, decide_eq_true_eq] at this
  exact ⟨this.1, this.2⟩
abbrev ToksC (v : Val) (xs : List Tkn) : Prop := AFn Tryz.prog 289 [.slice (xs.map Tkn.enc) (.own 0 2), v.enc] ⟨[], [.len xs.length]⟩ (fun e σ => e = .ret (.slice ((xs ++ toksV v).map Tkn.enc) (.own 0 2)) ∧ σ = ⟨[], [.len (xs ++ toksV v).length]⟩)
theorem tok_end (xs ys : List Tkn) {n : Nat} {s : Slots} {t : Nat} {l : List AV} (hl : lk? s t = some (.slice l (.own 0 2))) (h1 : l = (xs ++ ys).map Tkn.enc) (h2 : n = (xs ++ ys).length) :
    AEnd.ret (resAV s [t]) = .ret (.slice ((xs ++ ys).map Tkn.enc) (.own 0 2)) ∧ (⟨[], [.len n]⟩ : St) = ⟨[], [.len (xs ++ ys).length]⟩ := by
  subst h1; subst h2
  exact ⟨congrArg AEnd.ret (lk_of hl), rfl⟩
theorem toksBody (v : Val) (hv : v.size ≤ 68719476736) (ho : v.ok) (ihL : ∀ x ∈ v.l, ∀ xs : List Tkn, xs.length + 2 * x.size ≤ 1099511627776 → ToksC x xs) (ihM : ∀ x ∈ v.m, ∀ xs : List Tkn, xs.length + 2 * x.v.size ≤ 1099511627776 → ToksC x.v xs) (xs : List Tkn) (hxs : xs.length + 2 * v.size ≤ 1099511627776) :
    HCode Tryz.prog Tryz.f289.ntmps [] (bodyOf Tryz.f289) (fin [4] (fun e σ => e = .ret (.slice ((xs ++ toksV v).map Tkn.enc) (.own 0 2)) ∧ σ = ⟨[], [.len (xs ++ toksV v).length]⟩))
      [(0, .slice (xs.map Tkn.enc) (.own 0 2)), (1, v.enc)] ⟨[], [.len xs.length]⟩ := by
  have hll := v.l_len
  have hml := v.m_len
  have hsp := v.size_parts
  have hpos := v.size_pos
  have hse := v.size_eq
  rw [← Val.sizeL_eq, ← Val.sizeM_eq] at hse
  have hw := v_word
  have hp := v_punct
  rw [toksV_eq]
  by_cases k0 : v.kind = 0
  · have q0 : (v.kind == 0) = true := by simp [k0]
    rw [if_pos k0]
    have h1 := v_word sNull
    repeat' first | refine .br ?_ | refine .seq ?_ | refine .rg ?_ | refine .rd ?_ | refine .block ?_ | refine .scope ?_ | refine .skip ?_ | refine .label ?_ | refine .exit ?_ | refine .ret ?_ | refine .ct ?_ | refine .cf ?_ | refine .cy ?_ | refine .cn ?_ | (refine .cond rfl ?_ ?_ <;> intro hc) | refine A.nil_seq ?_ | refine .nl ?_ | refine .dd ?_ | refine .ys ?_ | refine .no ?_ | (refine A.guard rfl ?_ ?_ <;> intro hc) | refine .lb ?_ | refine .ln ?_ | refine .ls ?_ | refine .pv ?_ | refine .ix ?_ | refine .pt ?_ | refine .pf ?_ | refine .bx ?_ | refine .al ?_ | refine .st ?_ | refine .ad ?_ | refine .sb ?_ | refine .cl ?_ | refine .ck ?_ | refine A.call rfl h1 (WeakL.refl _) ?_ | refine A.call rfl h2 (WeakL.refl _) ?_ | refine A.append (n := xs.length) rfl rfl rfl rfl rfl rfl rfl rfl (List.length_map ..) rfl (by dsimp only [List.length_cons, List.length_nil]; omega) (by dsimp only [List.length_cons, List.length_nil]; omega) rfl ?_ | fail
    exact tok_end xs _ rfl (by rw [List.map_append]; rfl) (by rw [List.length_append]; rfl)
  have q0 : (v.kind == 0) = false := by simp [k0]
  rw [if_neg k0]
  by_cases k1 : v.kind = 1
  · have q1 : (v.kind == 1) = true := by simp [k1]
    rw [if_pos k1]
    have h1 := fmtBool (v.n == 1); have h2 := v_word (boolS (v.n == 1))
    repeat' first | refine .br ?_ | refine .seq ?_ | refine .rg ?_ | refine .rd ?_ | refine .block ?_ | refine .scope ?_ | refine .skip ?_ | refine .label ?_ | refine .exit ?_ | refine .ret ?_ | refine .ct ?_ | refine .cf ?_ | refine .cy ?_ | refine .cn ?_ | (refine .cond rfl ?_ ?_ <;> intro hc) | refine A.nil_seq ?_ | refine .nl ?_ | refine .dd ?_ | refine .ys ?_ | refine .no ?_ | (refine A.guard rfl ?_ ?_ <;> intro hc) | refine .lb ?_ | refine .ln ?_ | refine .ls ?_ | refine .pv ?_ | refine .ix ?_ | refine .pt ?_ | refine .pf ?_ | refine .bx ?_ | refine .al ?_ | refine .st ?_ | refine .ad ?_ | refine .sb ?_ | refine .cl ?_ | refine .ck ?_ | refine A.call rfl h1 (WeakL.refl _) ?_ | refine A.call rfl h2 (WeakL.refl _) ?_ | refine A.append (n := xs.length) rfl rfl rfl rfl rfl rfl rfl rfl (List.length_map ..) rfl (by dsimp only [List.length_cons, List.length_nil]; omega) (by dsimp only [List.length_cons, List.length_nil]; omega) rfl ?_ | fail
    exact tok_end xs _ rfl (by rw [List.map_append]; rfl) (by rw [List.length_append]; rfl)
  have q1 : (v.kind == 1) = false := by simp [k1]
  rw [if_neg k1]
  by_cases k2 : v.kind = 2
  · have q2 : (v.kind == 2) = true := by simp [k2]
    rw [if_pos k2]
    have h1 := formatInt v.n (Val.ok_n ho).1 (Val.ok_n ho).2
    repeat' first | refine .br ?_ | refine .seq ?_ | refine .rg ?_ | refine .rd ?_ | refine .block ?_ | refine .scope ?_ | refine .skip ?_ | refine .label ?_ | refine .exit ?_ | refine .ret ?_ | refine .ct ?_ | refine .cf ?_ | refine .cy ?_ | refine .cn ?_ | (refine .cond rfl ?_ ?_ <;> intro hc) | refine A.nil_seq ?_ | refine .nl ?_ | refine .dd ?_ | refine .ys ?_ | refine .no ?_ | (refine A.guard rfl ?_ ?_ <;> intro hc) | refine .lb ?_ | refine .ln ?_ | refine .ls ?_ | refine .pv ?_ | refine .ix ?_ | refine .pt ?_ | refine .pf ?_ | refine .bx ?_ | refine .al ?_ | refine .st ?_ | refine .ad ?_ | refine .sb ?_ | refine .cl ?_ | refine .ck ?_ | refine A.call rfl h1 (WeakL.refl _) ?_ | refine A.call rfl h2 (WeakL.refl _) ?_ | refine A.append (n := xs.length) rfl rfl rfl rfl rfl rfl rfl rfl (List.length_map ..) rfl (by dsimp only [List.length_cons, List.length_nil]; omega) (by dsimp only [List.length_cons, List.length_nil]; omega) rfl ?_ | fail
    exact tok_end xs _ rfl (by rw [List.map_append]; rfl) (by rw [List.length_append]; rfl)
  have q2 : (v.kind == 2) = false := by simp [k2]
  rw [if_neg k2]
  by_cases k3 : v.kind = 3
  · have q3 : (v.kind == 3) = true := by simp [k3]
    rw [if_pos k3]
    have h1 := tNumber v.s (by have := v.size_eq; omega)
    repeat' first | refine .br ?_ | refine .seq ?_ | refine .rg ?_ | refine .rd ?_ | refine .block ?_ | refine .scope ?_ | refine .skip ?_ | refine .label ?_ | refine .exit ?_ | refine .ret ?_ | refine .ct ?_ | refine .cf ?_ | refine .cy ?_ | refine .cn ?_ | (refine .cond rfl ?_ ?_ <;> intro hc) | refine A.nil_seq ?_ | refine .nl ?_ | refine .dd ?_ | refine .ys ?_ | refine .no ?_ | (refine A.guard rfl ?_ ?_ <;> intro hc) | refine .lb ?_ | refine .ln ?_ | refine .ls ?_ | refine .pv ?_ | refine .ix ?_ | refine .pt ?_ | refine .pf ?_ | refine .bx ?_ | refine .al ?_ | refine .st ?_ | refine .ad ?_ | refine .sb ?_ | refine .cl ?_ | refine .ck ?_ | refine A.call rfl h1 (WeakL.refl _) ?_ | refine A.call rfl h2 (WeakL.refl _) ?_ | refine A.append (n := xs.length) rfl rfl rfl rfl rfl rfl rfl rfl (List.length_map ..) rfl (by dsimp only [List.length_cons, List.length_nil]; omega) (by dsimp only [List.length_cons, List.length_nil]; omega) rfl ?_ | fail
    exact tok_end xs _ rfl (by rw [List.map_append]; rfl) (by rw [List.length_append]; rfl)
  have q3 : (v.kind == 3) = false := by simp [k3]
  rw [if_neg k3]
  by_cases k4 : v.kind = 4
  · have q4 : (v.kind == 4) = true := by simp [k4]
    rw [if_pos k4]
    skip
    repeat' first | refine .br ?_ | refine .seq ?_ | refine .rg ?_ | refine .rd ?_ | refine .block ?_ | refine .scope ?_ | refine .skip ?_ | refine .label ?_ | refine .exit ?_ | refine .ret ?_ | refine .ct ?_ | refine .cf ?_ | refine .cy ?_ | refine .cn ?_ | (refine .cond rfl ?_ ?_ <;> intro hc) | refine A.nil_seq ?_ | refine .nl ?_ | refine .dd ?_ | refine .ys ?_ | refine .no ?_ | (refine A.guard rfl ?_ ?_ <;> intro hc) | refine .lb ?_ | refine .ln ?_ | refine .ls ?_ | refine .pv ?_ | refine .ix ?_ | refine .pt ?_ | refine .pf ?_ | refine .bx ?_ | refine .al ?_ | refine .st ?_ | refine .ad ?_ | refine .sb ?_ | refine .cl ?_ | refine .ck ?_ | refine A.call rfl h1 (WeakL.refl _) ?_ | refine A.call rfl h2 (WeakL.refl _) ?_ | refine A.append (n := xs.length) rfl rfl rfl rfl rfl rfl rfl rfl (List.length_map ..) rfl (by dsimp only [List.length_cons, List.length_nil]; omega) (by dsimp only [List.length_cons, List.length_nil]; omega) rfl ?_ | fail
    exact tok_end xs _ rfl (by rw [List.map_append]; rfl) (by rw [List.length_append]; rfl)
  have q4 : (v.kind == 4) = false := by simp [k4]
  rw [if_neg k4]
  by_cases k5 : v.kind = 5
  · have q5 : (v.kind == 5) = true := by simp [k5]
    rw [if_pos k5]
    have h1 := v_word v.s
    repeat' first | refine .br ?_ | refine .seq ?_ | refine .rg ?_ | refine .rd ?_ | refine .block ?_ | refine .scope ?_ | refine .skip ?_ | refine .label ?_ | refine .exit ?_ | refine .ret ?_ | refine .ct ?_ | refine .cf ?_ | refine .cy ?_ | refine .cn ?_ | (refine .cond rfl ?_ ?_ <;> intro hc) | refine A.nil_seq ?_ | refine .nl ?_ | refine .dd ?_ | refine .ys ?_ | refine .no ?_ | (refine A.guard rfl ?_ ?_ <;> intro hc) | refine .lb ?_ | refine .ln ?_ | refine .ls ?_ | refine .pv ?_ | refine .ix ?_ | refine .pt ?_ | refine .pf ?_ | refine .bx ?_ | refine .al ?_ | refine .st ?_ | refine .ad ?_ | refine .sb ?_ | refine .cl ?_ | refine .ck ?_ | refine A.call rfl h1 (WeakL.refl _) ?_ | refine A.call rfl h2 (WeakL.refl _) ?_ | refine A.append (n := xs.length) rfl rfl rfl rfl rfl rfl rfl rfl (List.length_map ..) rfl (by dsimp only [List.length_cons, List.length_nil]; omega) (by dsimp only [List.length_cons, List.length_nil]; omega) rfl ?_ | fail
    exact tok_end xs _ rfl (by rw [List.map_append]; rfl) (by rw [List.length_append]; rfl)
  have q5 : (v.kind == 5) = false := by simp [k5]
  rw [if_neg k5]
  by_cases k8 : v.kind = 8
  · have q8 : (v.kind == 8) = true := by simp [k8]
    rw [if_pos k8]
    have h1 := v_punct [36]; have h2 := v_word v.s
    repeat' first | refine .br ?_ | refine .seq ?_ | refine .rg ?_ | refine .rd ?_ | refine .block ?_ | refine .scope ?_ | refine .skip ?_ | refine .label ?_ | refine .exit ?_ | refine .ret ?_ | refine .ct ?_ | refine .cf ?_ | refine .cy ?_ | refine .cn ?_ | (refine .cond rfl ?_ ?_ <;> intro hc) | refine A.nil_seq ?_ | refine .nl ?_ | refine .dd ?_ | refine .ys ?_ | refine .no ?_ | (refine A.guard rfl ?_ ?_ <;> intro hc) | refine .lb ?_ | refine .ln ?_ | refine .ls ?_ | refine .pv ?_ | refine .ix ?_ | refine .pt ?_ | refine .pf ?_ | refine .bx ?_ | refine .al ?_ | refine .st ?_ | refine .ad ?_ | refine .sb ?_ | refine .cl ?_ | refine .ck ?_ | refine A.call rfl h1 (WeakL.refl _) ?_ | refine A.call rfl h2 (WeakL.refl _) ?_ | refine A.append (n := xs.length) rfl rfl rfl rfl rfl rfl rfl rfl (List.length_map ..) rfl (by dsimp only [List.length_cons, List.length_nil]; omega) (by dsimp only [List.length_cons, List.length_nil]; omega) rfl ?_ | fail
    exact tok_end xs _ rfl (by rw [List.map_append]; rfl) (by rw [List.length_append]; rfl)
  have q8 : (v.kind == 8) = false := by simp [k8]
  rw [if_neg k8]
  by_cases k6 : v.kind = 6
  · have q6 : (v.kind == 6) = true := by simp [k6]
    rw [if_pos k6]
    have h1 := v_punct [91]
    have h2 := v_punct [93]
    repeat' first | refine .br ?_ | refine .seq ?_ | refine .rg ?_ | refine .rd ?_ | refine .block ?_ | refine .scope ?_ | refine .skip ?_ | refine .label ?_ | refine .exit ?_ | refine .ret ?_ | refine .ct ?_ | refine .cf ?_ | refine .cy ?_ | refine .cn ?_ | (refine .cond rfl ?_ ?_ <;> intro hc) | refine A.nil_seq ?_ | refine .nl ?_ | refine .dd ?_ | refine .ys ?_ | refine .no ?_ | (refine A.guard rfl ?_ ?_ <;> intro hc) | refine .lb ?_ | refine .ln ?_ | refine .ls ?_ | refine .pv ?_ | refine .ix ?_ | refine .pt ?_ | refine .pf ?_ | refine .bx ?_ | refine .al ?_ | refine .st ?_ | refine .ad ?_ | refine .sb ?_ | refine .cl ?_ | refine .ck ?_ | refine A.call rfl h1 (WeakL.refl _) ?_ | refine A.append (n := xs.length) rfl rfl rfl rfl rfl rfl rfl rfl (List.length_map ..) rfl (by dsimp only [List.length_cons, List.length_nil]; omega) (by dsimp only [List.length_cons, List.length_nil]; omega) rfl ?_ | fail
    refine HCode.forK v.l.length (fun k => [(81, .int .i64 k), (80, .int .i64 v.lv.length), (79, .slice v.lv .no), (0, .slice (((xs ++ [tP [91]]) ++ toksL (v.l.take k)).map Tkn.enc) (.own 0 2))])
      (fun k => ⟨[], [.len ((xs ++ [tP [91]]) ++ toksL (v.l.take k)).length]⟩) (fun _ => True) ⟨rfl, rfl, rfl, by rw [List.take_zero, toksL, List.append_nil, List.map_append]; rfl, trivial⟩ (by rw [List.take_zero, toksL, List.append_nil, List.length_append]; rfl) trivial fun k hk _ => ?_
    by_cases h1 : k < v.l.length
    · have d1 : decide ((k : Int) < (v.lv.length : Int)) = true := by rw [v.lv_len]; simp [h1]
      have x1 := Val.lv_get h1
      have hlen := toksL_len (v.l.take k)
      have hlt := sizeL_take v.l (k + 1)
      have hst := sizeL_succ h1
      have hcc := ihL v.l[k] (List.getElem_mem h1) ((xs ++ [tP [91]]) ++ toksL (v.l.take k)) (by simp only [List.length_append, List.length_cons, List.length_nil]; omega)
      rw [ToksC, List.append_assoc (xs ++ [tP [91]]), ← toksL_take h1] at hcc
      repeat' first | refine .seq ?_ | refine .rg ?_ | refine .rd ?_ | refine .block ?_ | refine .scope ?_ | refine .skip ?_ | refine .label ?_ | refine .exit ?_ | refine .ret ?_ | refine .ct ?_ | refine .cf ?_ | refine .cy ?_ | refine .cn ?_ | (refine .cond rfl ?_ ?_ <;> intro hc) | refine A.nil_seq ?_ | refine .nl ?_ | refine .dd ?_ | refine .ys ?_ | refine .no ?_ | (refine A.guard rfl ?_ ?_ <;> intro hc) | refine .lb ?_ | refine .ln ?_ | refine .ls ?_ | refine .pv ?_ | refine .ix ?_ | refine .pt ?_ | refine .pf ?_ | refine .bx ?_ | refine .al ?_ | refine .st ?_ | refine .ad ?_ | refine .sb ?_ | refine .cl ?_ | refine .ck ?_ | refine A.callG 0 rfl hcc rfl (Tkn.closedL _) (Tkn.closedL _) (by simp [AV.closedL, Val.closed]) (WeakL.refl _) rfl ?_ | fail
      exact ⟨h1, ⟨rfl, rfl, rfl, rfl, trivial⟩, by simp [belowS, AV.low, -List.map_append], rfl, rfl, trivial⟩
    · have d1 : decide ((k : Int) < (v.lv.length : Int)) = false := by rw [v.lv_len]; simp; omega
      obtain rfl : k = v.l.length := by omega
      have hlen := toksL_len v.l
      rw [List.take_length]
      repeat' first | refine .seq ?_ | refine .rg ?_ | refine .rd ?_ | refine .block ?_ | refine .scope ?_ | refine .skip ?_ | refine .label ?_ | refine .exit ?_ | refine .ret ?_ | refine .ct ?_ | refine .cf ?_ | refine .cy ?_ | refine .cn ?_ | (refine .cond rfl ?_ ?_ <;> intro hc) | refine A.nil_seq ?_ | refine .nl ?_ | refine .dd ?_ | refine .ys ?_ | refine .no ?_ | (refine A.guard rfl ?_ ?_ <;> intro hc) | refine .lb ?_ | refine .ln ?_ | refine .ls ?_ | refine .pv ?_ | refine .ix ?_ | refine .pt ?_ | refine .pf ?_ | refine .bx ?_ | refine .al ?_ | refine .st ?_ | refine .ad ?_ | refine .sb ?_ | refine .cl ?_ | refine .ck ?_ | refine A.call rfl h2 (WeakL.refl _) ?_ | refine A.append (n := ((xs ++ [tP [91]]) ++ toksL v.l).length) rfl rfl rfl rfl rfl rfl rfl rfl (List.length_map ..) rfl (by dsimp only [List.length_cons, List.length_nil]; simp only [List.length_append, List.length_cons, List.length_nil]; omega) (by dsimp only [List.length_cons, List.length_nil]; simp only [List.length_append, List.length_cons, List.length_nil]; omega) rfl ?_ | fail
      exact tok_end xs _ rfl (by simp only [List.map_append, List.map_cons, List.map_nil, List.append_assoc, List.cons_append, List.nil_append]; rfl) (by simp only [List.length_append, List.length_cons, List.length_nil]; omega)
  have q6 : (v.kind == 6) = false := by simp [k6]
  rw [if_neg k6]
  have h1 := v_punct [123]
  have h2 := v_punct [125]
  repeat' first | refine .br ?_ | refine .seq ?_ | refine .rg ?_ | refine .rd ?_ | refine .block ?_ | refine .scope ?_ | refine .skip ?_ | refine .label ?_ | refine .exit ?_ | refine .ret ?_ | refine .ct ?_ | refine .cf ?_ | refine .cy ?_ | refine .cn ?_ | (refine .cond rfl ?_ ?_ <;> intro hc) | refine A.nil_seq ?_ | refine .nl ?_ | refine .dd ?_ | refine .ys ?_ | refine .no ?_ | (refine A.guard rfl ?_ ?_ <;> intro hc) | refine .lb ?_ | refine .ln ?_ | refine .ls ?_ | refine .pv ?_ | refine .ix ?_ | refine .pt ?_ | refine .pf ?_ | refine .bx ?_ | refine .al ?_ | refine .st ?_ | refine .ad ?_ | refine .sb ?_ | refine .cl ?_ | refine .ck ?_ | refine A.call rfl h1 (WeakL.refl _) ?_ | refine A.append (n := xs.length) rfl rfl rfl rfl rfl rfl rfl rfl (List.length_map ..) rfl (by dsimp only [List.length_cons, List.length_nil]; omega) (by dsimp only [List.length_cons, List.length_nil]; omega) rfl ?_ | fail
  refine HCode.forK v.m.length (fun k => [(100, .int .i64 k), (99, .int .i64 v.mv.length), (98, .slice v.mv .no), (0, .slice (((xs ++ [tP [123]]) ++ toksM (v.m.take k)).map Tkn.enc) (.own 0 2))])
    (fun k => ⟨[], [.len ((xs ++ [tP [123]]) ++ toksM (v.m.take k)).length]⟩) (fun _ => True) ⟨rfl, rfl, rfl, by rw [List.take_zero, toksM, List.append_nil, List.map_append]; rfl, trivial⟩ (by rw [List.take_zero, toksM, List.append_nil, List.length_append]; rfl) trivial fun k hk _ => ?_
  by_cases h1 : k < v.m.length
  · have d1 : decide ((k : Int) < (v.mv.length : Int)) = true := by rw [v.mv_len]; simp [h1]
    have x1 := Val.mv_get h1
    have hlen := toksM_len (v.m.take k)
    have hlt := sizeM_take v.m (k + 1)
    have hst := sizeM_succ h1
    have w1 := v_word v.m[k].name
    have w2 := v_punct [58]
    have hcc := ihM v.m[k] (List.getElem_mem h1) (((xs ++ [tP [123]]) ++ toksM (v.m.take k)) ++ [tW v.m[k].name, tP [58]]) (by simp only [List.length_append, List.length_cons, List.length_nil]; omega)
    have hcl : AV.closedL ((((xs ++ [tP [123]]) ++ toksM (v.m.take k)).map Tkn.enc) ++ [tW v.m[k].name, tP [58]].map Tkn.enc) = true := by rw [← List.map_append]; exact Tkn.closedL _
    rw [ToksC, List.map_append (l₂ := [tW v.m[k].name, tP [58]])] at hcc
    rw [show ((xs ++ [tP [123]]) ++ toksM (v.m.take k)) ++ [tW v.m[k].name, tP [58]] ++ toksV v.m[k].v = (xs ++ [tP [123]]) ++ toksM (v.m.take (k + 1)) by rw [toksM_take h1]; simp only [List.append_assoc], List.length_append (bs := [tW v.m[k].name, tP [58]])] at hcc
    repeat' first | refine .seq ?_ | refine .rg ?_ | refine .rd ?_ | refine .block ?_ | refine .scope ?_ | refine .skip ?_ | refine .label ?_ | refine .exit ?_ | refine .ret ?_ | refine .ct ?_ | refine .cf ?_ | refine .cy ?_ | refine .cn ?_ | (refine .cond rfl ?_ ?_ <;> intro hc) | refine A.nil_seq ?_ | refine .nl ?_ | refine .dd ?_ | refine .ys ?_ | refine .no ?_ | (refine A.guard rfl ?_ ?_ <;> intro hc) | refine .lb ?_ | refine .ln ?_ | refine .ls ?_ | refine .pv ?_ | refine .ix ?_ | refine .pt ?_ | refine .pf ?_ | refine .bx ?_ | refine .al ?_ | refine .st ?_ | refine .ad ?_ | refine .sb ?_ | refine .cl ?_ | refine .ck ?_ | refine A.call rfl w1 (WeakL.refl _) ?_ | refine A.call rfl w2 (WeakL.refl _) ?_ | refine A.append (n := ((xs ++ [tP [123]]) ++ toksM (v.m.take k)).length) rfl rfl rfl rfl rfl rfl rfl rfl (List.length_map ..) rfl (by dsimp only [List.length_cons, List.length_nil]; simp only [List.length_append, List.length_cons, List.length_nil]; omega) (by dsimp only [List.length_cons, List.length_nil]; simp only [List.length_append, List.length_cons, List.length_nil]; omega) rfl ?_ | refine A.callG 0 rfl hcc rfl hcl (Tkn.closedL _) (by simp [AV.closedL, Val.closed]) (WeakL.refl _) rfl ?_ | fail
    exact ⟨h1, ⟨rfl, rfl, rfl, rfl, trivial⟩, by simp [belowS, AV.low, -List.map_append], rfl, rfl, trivial⟩
  · have d1 : decide ((k : Int) < (v.mv.length : Int)) = false := by rw [v.mv_len]; simp; omega
    obtain rfl : k = v.m.length := by omega
    have hlen := toksM_len v.m
    rw [List.take_length]
    repeat' first | refine .seq ?_ | refine .rg ?_ | refine .rd ?_ | refine .block ?_ | refine .scope ?_ | refine .skip ?_ | refine .label ?_ | refine .exit ?_ | refine .ret ?_ | refine .ct ?_ | refine .cf ?_ | refine .cy ?_ | refine .cn ?_ | (refine .cond rfl ?_ ?_ <;> intro hc) | refine A.nil_seq ?_ | refine .nl ?_ | refine .dd ?_ | refine .ys ?_ | refine .no ?_ | (refine A.guard rfl ?_ ?_ <;> intro hc) | refine .lb ?_ | refine .ln ?_ | refine .ls ?_ | refine .pv ?_ | refine .ix ?_ | refine .pt ?_ | refine .pf ?_ | refine .bx ?_ | refine .al ?_ | refine .st ?_ | refine .ad ?_ | refine .sb ?_ | refine .cl ?_ | refine .ck ?_ | refine A.call rfl h2 (WeakL.refl _) ?_ | refine A.append (n := ((xs ++ [tP [123]]) ++ toksM v.m).length) rfl rfl rfl rfl rfl rfl rfl rfl (List.length_map ..) rfl (by dsimp only [List.length_cons, List.length_nil]; simp only [List.length_append, List.length_cons, List.length_nil]; omega) (by dsimp only [List.length_cons, List.length_nil]; simp only [List.length_append, List.length_cons, List.length_nil]; omega) rfl ?_ | fail
    exact tok_end xs _ rfl (by simp only [List.map_append, List.map_cons, List.map_nil, List.append_assoc, List.cons_append, List.nil_append]; rfl) (by simp only [List.length_append, List.length_cons, List.length_nil]; omega)
theorem vToksC : ∀ N : Nat, N ≤ 68719476736 → ∀ v : Val, v.size ≤ N → v.ok → ∀ xs : List Tkn, xs.length + 2 * v.size ≤ 1099511627776 → ToksC v xs
  | 0, _, v, hv => absurd hv (by have := v.size_pos; omega)
  | N + 1, hN, v, hv => fun ho xs hxs => by
    have ih := vToksC N (by omega)
    have hb := toksBody v (by omega) ho (fun x hx ys hy => ih x (by
      obtain ⟨k, hk, rfl⟩ := List.getElem_of_mem hx
      have := Val.size_l hk; omega) (Val.ok_l ho hx) ys hy) (fun x hx ys hy => ih x.v (by
      obtain ⟨k, hk, rfl⟩ := List.getElem_of_mem hx
      have := Val.size_m hk; omega) (Val.ok_m ho hx) ys hy) xs hxs
    exact AFn.enter [4] Tryz.func289 rfl rfl rfl rfl rfl (by decide) hb
theorem vToks0 (v : Val) (hv : v.size ≤ 68719476736) (ho : v.ok) : PFn Tryz.prog 289 [.slice [] .nil, v.enc] (.slice ((toksV v).map Tkn.enc) .no) := by
  have hb := toksBody v hv ho (fun x hx ys hy => vToksC 68719476736 (Nat.le_refl _) x (by
    obtain ⟨k, hk, rfl⟩ := List.getElem_of_mem hx
    have := Val.size_l hk; omega) (Val.ok_l ho hx) ys hy) (fun x hx ys hy => vToksC 68719476736 (Nat.le_refl _) x.v (by
    obtain ⟨k, hk, rfl⟩ := List.getElem_of_mem hx
    have := Val.size_m hk; omega) (Val.ok_m ho hx) ys hy) [] (by simp only [List.length_nil]; omega)
  refine AFn.plain (by simp [AV.closed, Tkn.closedL]) (by simp [AV.closed, AV.closedL, Val.closed]) (AFn.enter [4] Tryz.func289 rfl rfl rfl rfl rfl (by decide) ?_)
  refine HCode.adopt 0 false 2 rfl rfl rfl rfl rfl rfl ?_
  refine HCode.weaken (s := [(0, .slice [] (.own 0 2)), (1, v.enc)]) (hb.mono fun e s σ h => ?_) ⟨rfl, rfl, trivial⟩
  cases e with
  | normal => exact ⟨_, h.1, Weak.no (WeakL.refl _)⟩
  | ret => exact ⟨_, h.1, Weak.no (WeakL.refl _)⟩
  | pan x => exact absurd h.1 (by simp)
  | exit id => exact h
  | goto l => exact h
theorem vTokens (v : Val) (hv : v.size ≤ 68719476736) (ho : v.ok) : PFn Tryz.prog 279 [v.enc] (.tup [.slice ((if plainV v = true then toksV v else []).map Tkn.enc) .no, .bool (plainV v)]) := by
  have h1 := vPlain v hv
  have h2 := vToks0 v hv ho
  refine AFn.plain (by simp [AV.closed, AV.closedL, Tkn.closedL]) (by simp [AV.closedL, Val.closed]) (AFn.enter [2, 3] Tryz.func279 rfl rfl rfl rfl rfl (by decide) ?_)
  cases h0 : plainV v with
  | true =>
    rw [h0] at h1
    repeat' first | refine A.box_r rfl rfl ?_ | refine .seq ?_ | refine .rg ?_ | refine .rd ?_ | refine .block ?_ | refine .scope ?_ | refine .skip ?_ | refine .label ?_ | refine .exit ?_ | refine .ret ?_ | refine .ct ?_ | refine .cf ?_ | refine .cy ?_ | refine .cn ?_ | (refine .cond rfl ?_ ?_ <;> intro hc) | refine A.nil_seq ?_ | refine .nl ?_ | refine .dd ?_ | refine .ys ?_ | refine .no ?_ | (refine A.guard rfl ?_ ?_ <;> intro hc) | refine .lb ?_ | refine .ln ?_ | refine .ls ?_ | refine .pv ?_ | refine .ix ?_ | refine .pt ?_ | refine .pf ?_ | refine .bx ?_ | refine .al ?_ | refine .st ?_ | refine .ad ?_ | refine .sb ?_ | refine .cl ?_ | refine .ck ?_ | refine A.call rfl h1 (WeakL.refl _) ?_ | refine A.call rfl h2 (WeakL.refl _) ?_ | fail
    exact ⟨_, rfl, Weak.refl _⟩
  | false =>
    rw [h0] at h1
    repeat' first | refine A.box_r rfl rfl ?_ | refine .seq ?_ | refine .rg ?_ | refine .rd ?_ | refine .block ?_ | refine .scope ?_ | refine .skip ?_ | refine .label ?_ | refine .exit ?_ | refine .ret ?_ | refine .ct ?_ | refine .cf ?_ | refine .cy ?_ | refine .cn ?_ | (refine .cond rfl ?_ ?_ <;> intro hc) | refine A.nil_seq ?_ | refine .nl ?_ | refine .dd ?_ | refine .ys ?_ | refine .no ?_ | (refine A.guard rfl ?_ ?_ <;> intro hc) | refine .lb ?_ | refine .ln ?_ | refine .ls ?_ | refine .pv ?_ | refine .ix ?_ | refine .pt ?_ | refine .pf ?_ | refine .bx ?_ | refine .al ?_ | refine .st ?_ | refine .ad ?_ | refine .sb ?_ | refine .cl ?_ | refine .ck ?_ | refine A.call rfl h1 (WeakL.refl _) ?_ | fail
    exact ⟨_, rfl, Weak.tup (WeakL.cons (Weak.no (WeakL.refl _)) (WeakL.refl _))⟩
end Go.Proofs.YtegakkonlhmeaaaGreatDoor
