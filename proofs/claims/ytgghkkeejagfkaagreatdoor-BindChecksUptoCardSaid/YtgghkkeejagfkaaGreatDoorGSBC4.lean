/-
  Contracts and plain facts for a law, joined.
-/
import Derived.Test.YtgghkkeejagfkaaGreatDoorGSBC2
import Derived.Test.YtgghkkeejagfkaaGreatDoorGSBC3
import Derived.Lib.ItoaNum
import Derived.Lib.AppendIntMem
import Derived.Lib.ValidLaws
import Derived.Test.YtgghkkeejagfkaaGreatDoorAvTab
import Derived.Test.YtgghkkeejagfkaaGreatDoorAvMap
import Derived.Test.YtgghkkeejagfkaaGreatDoorShelfF
import Derived.Test.YtgghkkeejagfkaaGreatDoorGSBC1
import Derived.Test.YtgghkkeejagfkaaGreatDoorAvRen4
import Derived.Test.YtgghkkeejagfkaaGreatDoorAvFun
set_option maxRecDepth 100000
set_option maxHeartbeats 16000000
set_option linter.unusedVariables false
set_option linter.unusedSimpArgs false
set_option linter.unusedSectionVars false
namespace Go.Proofs.YtgghkkeejagfkaaGreatDoor
open Go Go.Av
mutual
def depV : Val → Nat
  | .mk k _ _ l m => if k = 6 then depL l + 1 else if k = 7 then depM m + 1 else 0
def depL : List Val → Nat
  | [] => 0
  | v :: l => max (depV v) (depL l)
def depM : List Mem → Nat
  | [] => 0
  | .mk _ v :: m => max (depV v) (depM m)
end
theorem depV_eq (v : Val) : depV v = if v.kind = 6 then depL v.l + 1 else if v.kind = 7 then depM v.m + 1 else 0 := by cases v; rw [depV]; rfl
mutual
theorem depV_le : ∀ v : Val, depV v < v.size
  | .mk k n s l m => by
    have h1 := depL_le l
    have h2 := depM_le m
    rw [depV, Val.size]
    split
    · omega
    · split <;> omega
theorem depL_le : ∀ l : List Val, depL l ≤ Val.sizeL l
  | [] => by rw [depL]; omega
  | v :: l => by
    have h1 := depV_le v
    have h2 := depL_le l
    rw [depL, Val.sizeL]; omega
theorem depM_le : ∀ m : List Mem, depM m ≤ Val.sizeM m
  | [] => by rw [depM]; omega
  | .mk n v :: m => by
    have h1 := depV_le v
    have h2 := depM_le m
    rw [depM, Val.sizeM]; omega
end
theorem depL_app : ∀ a b : List Val, depL (a ++ b) = max (depL a) (depL b)
  | [], b => by rw [List.nil_append, depL]; omega
  | v :: a, b => by rw [List.cons_append, depL, depL, depL_app a b]; omega
theorem depM_app : ∀ a b : List Mem, depM (a ++ b) = max (depM a) (depM b)
  | [], b => by rw [List.nil_append, depM]; omega
  | .mk n v :: a, b => by rw [List.cons_append, depM, depM, depM_app a b]; omega
theorem depL_take {l : List Val} {k : Nat} (h : k < l.length) : depL (l.take (k + 1)) = max (depL (l.take k)) (depV l[k]) := by
  rw [List.take_succ_eq_append_getElem h, depL_app, depL, depL]; omega
theorem depM_take {l : List Mem} {k : Nat} (h : k < l.length) : depM (l.take (k + 1)) = max (depM (l.take k)) (depV l[k].v) := by
  rw [List.take_succ_eq_append_getElem h, depM_app]
  congr 1
  cases hx : l[k]; rw [depM, depM]
  exact Nat.max_zero _
def plainV (v : Val) : Bool := allV nameB v && decide (depV v ≤ 16)
def valFix (v : Val) : Bool := plainV v && decide (varsV v [] = [])
def dfltOk (p : Par) : Bool := if p.has = true then valFix p.d else sameV p.d val0
def parOk (p : Par) : Bool := nameB p.name && (rightT p.t && dfltOk p)
def argsOk (m : List Mem) : Bool := m.all fun x => nameB x.name && valFix x.v
def dirOk (d : Dirc) : Bool := nameB d.name && argsOk d.args
def fldOk (f : Fld) : Bool := nameB f.name && (f.params.all parOk && (rightT f.t && f.dirs.all dirOk))
def sTrue : Str := [116, 114, 117, 101]
def sFalse : Str := [102, 97, 108, 115, 101]
def sNull : Str := [110, 117, 108, 108]
def partOk (s : Str) : Bool := (s != sTrue && (s != sFalse && s != sNull)) && nameB s
def dfnOk (d : Dfn) : Bool :=
  if d.kind = 1 ∨ d.kind = 2 then (decide (d.fields ≠ []) && decide (d.parts = [] ∧ d.params = [])) && (nameB d.name && (d.faces.all nameB && d.fields.all fldOk))
  else if d.kind = 3 then (decide (d.parts ≠ []) && decide (d.faces = [] ∧ d.fields = [] ∧ d.params = [])) && (nameB d.name && d.parts.all nameB)
  else if d.kind = 4 then (decide (d.parts ≠ []) && decide (d.faces = [] ∧ d.fields = [] ∧ d.params = [])) && (nameB d.name && d.parts.all partOk)
  else if d.kind = 5 then (decide (d.params ≠ []) && decide (d.faces = [] ∧ d.fields = [] ∧ d.parts = [])) && (nameB d.name && d.params.all parOk)
  else false
def sdlOk (s : Sch) : Bool := nameB s.query && ((s.mutation == [] || nameB s.mutation) && s.defs.all dfnOk)
def own2 (n : Str) : Bool := n.take 2 == [95, 95]
def onceB (l : List Str) : Bool := decide l.Nodup
def foreignB (l : List Str) : Bool := !l.any own2
def goodNames (l : List Str) : Bool := onceB l && foreignB l
def everyB (s : Sch) (f : Dfn → Bool) : Bool := !s.defs.any fun d => !f d
def dNames (s : Sch) : List Str := s.defs.map Dfn.name
def namedB (s : Sch) : Bool := sdlOk s && (onceB (dNames s) && (foreignB (dNames s) && !(dNames s).any fun n => kindB s n [0]))
def rootsB (s : Sch) : Bool := kindB s s.query [1] && (s.mutation == [] || (s.mutation != s.query && kindB s s.mutation [1]))
def sole1 (d : Dfn) : Bool := goodNames (d.fields.map Fld.name) && (goodNames (d.params.map Par.name) && (onceB d.parts && (onceB d.faces && !d.fields.any fun f => !goodNames (f.params.map Par.name))))
def soleB (s : Sch) : Bool := everyB s sole1
def entriesB (s : Sch) (l : List Par) : Bool := !l.any fun p => !entryB s p.t.name
def typed1 (s : Sch) (d : Dfn) : Bool := entriesB s d.params && !d.fields.any fun f => ((!leafB s f.t.name && !compB s f.t.name) || !entriesB s f.params)
def typedB (s : Sch) : Bool := everyB s (typed1 s)
def face2 (s : Sch) (d : Dfn) (n : Str) : Bool := !(findR s n).2 || ((findR s n).1.kind != 2 || (n == d.name || (findR s n).1.faces.any fun m => !decide (m ∈ d.faces)))
def faces1 (s : Sch) (d : Dfn) : Bool := !d.faces.any (face2 s d)
def facesB (s : Sch) : Bool := everyB s (faces1 s)
def possF (l : List Str) (d : Dfn) (name : Str) : List Str := if d.kind = 1 ∧ name ∈ d.faces then addNew l d.name else l
def possU (s : Sch) (l : List Str) (p : Str) : List Str := if kindB s p [1] = true then addNew l p else l
def possB (s : Sch) (name : Str) : List Str :=
  match findO s name with
  | none => []
  | some d => if d.kind = 1 then [name] else if d.kind = 2 then s.defs.foldl (fun l x => possF l x name) [] else if d.kind = 3 then d.parts.foldl (possU s) [] else []
def andNotI (m n : Int) : Int := IntKind.i64.wrap (((BitVec.ofInt IntKind.i64.bits m) &&& ~~~(BitVec.ofInt IntKind.i64.bits n)).toNat : Int)
def subT (a b : Typ) : Bool := rightT a && (rightT b && (a.name == b.name && (a.lists == b.lists && andNotI b.musts a.musts == 0)))
def subB (s : Sch) (a b : Typ) : Bool :=
  (rightT a && subT ⟨b.name, a.lists, a.musts⟩ b) && (a.name == b.name || ((findR s a.name).2 &&
    (((findR s a.name).1.kind == 1 && decide (a.name ∈ possB s b.name)) || ((findR s a.name).1.kind == 2 && (kindB s b.name [2] && decide (b.name ∈ (findR s a.name).1.faces))))))
def fldO (l : List Fld) (name : Str) : Option Fld := l.find? (fun f => f.name == name)
def takesB (f g : Fld) : Bool :=
  (g.params.all fun p => match parO f.params p.name with | none => false | some q => decide (q.t = p.t)) && (f.params.all fun q => !((parO g.params q.name).isNone && reqB q))
def hasB (s : Sch) (d : Dfn) (face : Str) : Bool := (findR s face).1.fields.all fun g => match fldO d.fields g.name with | none => false | some f => subB s f.t g.t && takesB f g
def kept1 (s : Sch) (d : Dfn) : Bool := !d.faces.any fun n => !hasB s d n
def keptB (s : Sch) : Bool := everyB s (kept1 s)
def parts1 (s : Sch) (d : Dfn) : Bool := d.kind != 3 || !d.parts.any fun n => !kindB s n [1]
def partsB (s : Sch) : Bool := everyB s (parts1 s)
def needP (s : Sch) (p : Par) : Bool := decide (p.t.lists = 0) && (isT p.t && kindB s p.t.name [5])
def needAdd (s : Sch) (l : List Str) (p : Par) : List Str := if needP s p = true then addNew l p.t.name else l
def needsP (s : Sch) (name : Str) : List Str := (findR s name).1.params.foldl (needAdd s) []
def closeF (next : Str → List Str) : Nat → Nat → List Str → List Str
  | 0, _, l => l
  | n + 1, i, l => match l[i]? with
    | none => l
    | some x => closeF next n (i + 1) ((next x).foldl addNew l)
def allTs (s : Sch) : List Str := s.defs.flatMap fun d => d.params.map fun p => p.t.name
def ringsB (s : Sch) (name : Str) : Bool := decide (name ∈ closeF (needsP s) (allTs s).length 0 (needsP s name))
def open1 (s : Sch) (d : Dfn) : Bool := d.kind != 5 || !ringsB s d.name
def openB (s : Sch) : Bool := everyB s (open1 s)
def rightB (s : Sch) (l : List Par) : Bool := !l.any fun p => p.has && !litR s p.t p.d
def dflts1 (s : Sch) (d : Dfn) : Bool := rightB s d.params && (!(d.params.any fun p => p.has && !leafB s p.t.name) && !d.fields.any fun f => !rightB s f.params)
def dfltsB (s : Sch) : Bool := everyB s (dflts1 s)
def ruleB (s : Sch) (n : Int) : Bool :=
  if n = 1 then namedB s else if n = 2 then rootsB s else if n = 3 then soleB s else if n = 4 then typedB s else if n = 5 then facesB s else if n = 6 then keptB s else if n = 7 then partsB s else if n = 8 then openB s else if n = 9 then dfltsB s else false
def checkF (s : Sch) : Nat → Int → Int
  | 0, _ => 0
  | k + 1, n => if ruleB s n = true then checkF s k (n + 1) else n
def checkI (s : Sch) : Int := checkF s 9 1
theorem tab_is {w : World} {im : Nat → Nat → Prop} (hgl : GlobOk im w) : Lib.TabIs Tryz.prog w "internal/strconv.uint64pow10" .u64 Lib.pow10Tab := by
  have h0 := GlobOk.rep (g := ⟨[], [], im⟩) hgl (p := (2, .agg (Lib.pow10Tab.map (AV.int .u64)))) (.tail _ (.tail _ (.head _)))
  have hn := (hgl.2 (2, 20) (.head _)).2
  have hc := fun i z hz => tab_cells h0 i z hz
  unfold Lib.TabIs World.var?
  rw [show Tryz.prog.globalNamed "internal/strconv.uint64pow10" = some 2 by kernel_rfl, Option.bind_some]
  have c0 := hc 0 1 (by decide)
  unfold World.cell? at c0 hn hc
  dsimp only at c0 hn hc
  split at c0
  case h_2 => cases c0
  case h_1 cs e fz hh =>
    rw [hh] at hn hc
    simp only [Option.isSome_none, Bool.false_eq_true, if_false] at hn hc
    rw [hh]
    refine congrArg some (Array.ext_getElem? fun i => ?_)
    simp only [List.getElem?_toArray, List.getElem?_map, Array.getElem?_toList]
    by_cases hi : i < 20
    · have hl : i < Lib.pow10Tab.length := by rw [Lib.pow10Tab_length]; exact hi
      rw [hc i Lib.pow10Tab[i] (List.getElem?_eq_getElem hl), List.getElem?_eq_getElem hl]; rfl
    · rw [List.getElem?_eq_none (by rw [Lib.pow10Tab_length]; omega), Array.getElem?_eq_none (by have := Array.getElem?_eq_none_iff.1 hn; omega)]; rfl
theorem formatInt (n : Int) (h0 : -9223372036854775808 ≤ n) (h1 : n ≤ 9223372036854775807) : PFn Tryz.prog 250 [.int .i64 n, .int .i64 10] (.str (Lib.itoa n)) := by
  refine PFn.ofBelow ⟨_, Tryz.func250, rfl, rfl⟩ rfl (fun im w vals him hgl hl => ?_)
  obtain ⟨v, rest, e, hv, v2, rest2, e2, hv2, hr⟩ := hl
  have hv' : v = .int .i64 n := hv
  have hv2' : v2 = .int .i64 10 := hv2
  have hr' : rest2 = [] := hr
  subst hv'; subst e2; subst hv2'; subst hr'
  obtain rfl : vals = #[.int .i64 n, .int .i64 10] := by cases vals; simp_all
  refine (Tryz.strconv_FormatInt_10 n h0 h1 w (tab_is hgl)).mono ?_
  rintro e w' ⟨rfl, k, os, rfl⟩
  exact ⟨⟨_, rfl, rfl⟩, Lib.below_grow _ w (Nat.le_refl _) k os⟩
end Go.Proofs.YtgghkkeejagfkaaGreatDoor
namespace Go.Av
open Go
section
variable [Globals]
variable {P : Program} {all : Array Oper} {draw : Bool} {K : AX → Slots → St → Prop} {rest : List Oper} {acc : List Tag} {s : Slots} {σ : St} {ty : TypeId} {pos : String} {af : Array Edge}
theorem A.max2 {d : Tmp} {x y : Operand} {tys : Array TypeId} {m n r : Int} (hx : ev? s x = some (.int .i64 m)) (hy : ev? s y = some (.int .i64 n)) (hr : (if n > m then n else m) = r)
    (k : AOps P all draw K rest (.pure :: acc) ((d, .int .i64 r) :: s) σ) : AOps P all draw K (⟨some d, .call ⟨.builtin .max, #[x, y], tys⟩, ty, pos, af, none⟩ :: rest) acc s σ :=
  A.step rfl (tpure fun g w a ho => by
    have h1 : a.eval x = .int .i64 m := op1 hx (by simp [Op.operands, Call.operands]) ho
    have h2 : a.eval y = .int .i64 n := op1 hy (by simp [Op.operands, Call.operands]) ho
    exact ⟨.int .i64 r, by subst hr; simp [execOp, resolve, invoke, builtin, Builtin.max_, Builtin.max2, h1, h2, Result.andThen], rfl⟩) k
theorem A.nilPtr {d : Tmp} {x : Operand} {i off : Nat} (hx : ev? s x = some (.ptr i off)) (k : AOps P all draw K rest (.pure :: acc) ((d, .ptr i off) :: s) σ) : AOps P all draw K (⟨some d, .nilCheck x, ty, pos, af, none⟩ :: rest) acc s σ :=
  A.step rfl (tpure fun g w a ho => by
    obtain ⟨b, hb, e⟩ := op1 hx (by simp [Op.operands]) ho
    exact ⟨_, by simp only [execOp, e]; rfl, ⟨b, hb, rfl⟩⟩) k
theorem A.callW {d : Option Tmp} {f : FuncId} {args : Array Operand} {tys : Array TypeId} {x0 : AV} {vals vals0 cs cs' : List AV} {n n' : Nat} {B : List Ob} {T : List Tok} {v : AV}
    (hp : AFn P f (x0 :: vals0) ⟨[.cells cs], [.len n]⟩ (fun e σ1 => e = .ret v ∧ σ1 = ⟨[.cells cs'], [.len n']⟩)) (ha : evsK s args.toList some = some (x0 :: vals)) (hσ : σ = ⟨.cells cs :: B, .len n :: T⟩)
    (hx0 : x0.low 1 1 = true) (hc : AV.closedL vals0 = true) (hcs : AV.lowL 1 1 cs = true) (hcs' : AV.lowL 1 1 cs' = true) (hv : v.low 1 1 = true) (hw : WeakL vals vals0)
    (kk : AOps P all draw K rest (.all :: acc) (putS d v s) ⟨.cells cs' :: B, .len n' :: T⟩) : AOps P all draw K (⟨d, .call ⟨.value (.func f), args, tys⟩, ty, pos, af, none⟩ :: rest) acc s σ := by
  subst hσ
  have hfb : ∀ i, i < 1 → emb (B.length + 1) [0] i = i := fun i hi => by obtain rfl : i = 0 := by omega
                                                                         simp [emb]
  have hft : ∀ i, i < 1 → emb (T.length + 1) [0] i = i := fun i hi => by obtain rfl : i = 0 := by omega
                                                                         simp [emb]
  have hob : ∀ ys : List AV, AV.lowL 1 1 ys = true → Ob.ren (emb (B.length + 1) [0]) (emb (T.length + 1) [0]) (.cells ys) = .cells ys := fun ys h1 => by
    rw [Ob.ren, AV.renL_same hfb hft ys h1]
  refine A.callR (nB := B.length + 1) (nT := T.length + 1) (B0 := [.cells cs]) (T0 := [.len n]) (B1 := [.cells cs']) (T1 := [.len n']) (v0 := v) [0] [0] ha hp rfl rfl ⟨by simp, by simp⟩ ⟨by simp, by simp⟩ rfl rfl (fun j i' ob h ho => ?_) (fun j i' t h ht => ?_) ?_ rfl ?_ ?_ (AV.ren_same hfb hft v hv) (B' := .cells cs' :: B) (T' := .len n' :: T) ?_ ?_ kk
  · cases j with
    | zero =>
      simp at h ho
      subst h; subst ho
      rw [hob _ hcs]
      rfl
    | succ j => simp at h
  · cases j with
    | zero =>
      simp at h ht
      subst h; subst ht
      rfl
    | succ j => simp at h
  · simp only [List.length_cons, List.length_nil, belowB, Ob.low, Bool.and_true]
    exact hcs
  · simp only [List.length_cons, List.length_nil, AV.lowL, AV.lowL_of_closed _ _ _ hc, Bool.and_true]
    exact hx0
  · rw [AV.renL, AV.renL_closed _ _ _ hc, AV.ren_same hfb hft x0 hx0]
    exact WeakL.cons (Weak.refl _) hw
  · simp only [merge, upd, List.map_cons, List.map_nil, hob _ hcs', List.length_cons, List.length_nil, List.drop_succ_cons, List.drop_zero, List.append_nil, List.set_cons_zero]
  · simp only [merge, upd, List.map_cons, List.map_nil, Tok.ren, List.length_cons, List.length_nil, List.drop_succ_cons, List.drop_zero, List.append_nil, List.set_cons_zero]
end
end Go.Av
namespace Go.Proofs.YtgghkkeejagfkaaGreatDoor
open Go Go.Av
attribute [local irreducible] HCode AOps PFn AFn Av.Step TStep
structure Tkn where
  kind : Int
  s : Str
def Tkn.enc (t : Tkn) : AV := .agg [.int .i64 t.kind, .str t.s]
theorem Tkn.closed (t : Tkn) : t.enc.closed = true := rfl
theorem Tkn.closedL (l : List Tkn) : AV.closedL (l.map Tkn.enc) = true := closedL_map Tkn.closed l
@[simp] theorem lowL_Tkn (n m : Nat) (l : List Tkn) : AV.lowL n m (List.map Tkn.enc l) = true := AV.lowL_of_closed n m _ (Tkn.closedL l)
theorem Tkn.fitsAll (l : List Tkn) : Av.fitsAll true 2 (l.map Tkn.enc) = true := fitsAll_map (fun _ => rfl) l
def tP (s : Str) : Tkn := ⟨1, s⟩
def tW (s : Str) : Tkn := ⟨2, s⟩
def boolS (b : Bool) : Str := if b = true then sTrue else sFalse
mutual
def toksV : Val → List Tkn
  | .mk k n s l m => if k = 0 then [tW sNull] else if k = 1 then [tW (boolS (n == 1))] else if k = 2 then [⟨3, Lib.itoa n⟩] else if k = 3 then [⟨numOf s, s⟩] else if k = 4 then [⟨5, s⟩] else if k = 5 then [tW s]
    else if k = 8 then [tP [36], tW s] else if k = 6 then tP [91] :: (toksL l ++ [tP [93]]) else tP [123] :: (toksM m ++ [tP [125]])
def toksL : List Val → List Tkn
  | [] => []
  | v :: l => toksV v ++ toksL l
def toksM : List Mem → List Tkn
  | [] => []
  | .mk name v :: m => tW name :: tP [58] :: (toksV v ++ toksM m)
end
theorem toksV_eq (v : Val) : toksV v = if v.kind = 0 then [tW sNull] else if v.kind = 1 then [tW (boolS (v.n == 1))] else if v.kind = 2 then [⟨3, Lib.itoa v.n⟩] else if v.kind = 3 then [⟨numOf v.s, v.s⟩] else if v.kind = 4 then [⟨5, v.s⟩] else if v.kind = 5 then [tW v.s]
    else if v.kind = 8 then [tP [36], tW v.s] else if v.kind = 6 then tP [91] :: (toksL v.l ++ [tP [93]]) else tP [123] :: (toksM v.m ++ [tP [125]]) := by
  cases v; rw [toksV]; rfl
mutual
theorem toksV_len : ∀ v : Val, (toksV v).length ≤ 2 * v.size
  | .mk k n s l m => by
    have h1 := toksL_len l
    have h2 := toksM_len m
    rw [toksV, Val.size]
    repeat' split
    all_goals simp only [List.length_cons, List.length_append, List.length_nil]; omega
theorem toksL_len : ∀ l : List Val, (toksL l).length ≤ 2 * Val.sizeL l
  | [] => by rw [toksL]; simp
  | v :: l => by
    have h1 := toksV_len v
    have h2 := toksL_len l
    rw [toksL, Val.sizeL, List.length_append]; omega
theorem toksM_len : ∀ m : List Mem, (toksM m).length ≤ 2 * Val.sizeM m
  | [] => by rw [toksM]; simp
  | .mk _ v :: m => by
    have h1 := toksV_len v
    have h2 := toksM_len m
    rw [toksM, Val.sizeM, List.length_cons, List.length_cons, List.length_append]; omega
end
theorem toksL_app : ∀ a b : List Val, toksL (a ++ b) = toksL a ++ toksL b
  | [], b => by rw [toksL]; rfl
  | x :: a, b => by rw [List.cons_append, toksL, toksL, toksL_app a b, List.append_assoc]
theorem toksM_app : ∀ a b : List Mem, toksM (a ++ b) = toksM a ++ toksM b
  | [], b => by rw [toksM]; rfl
  | .mk _ _ :: a, b => by rw [List.cons_append, toksM, toksM, toksM_app a b]; simp
theorem toksL_take {l : List Val} {k : Nat} (h : k < l.length) : toksL (l.take (k + 1)) = toksL (l.take k) ++ toksV l[k] := by
  rw [List.take_succ_eq_append_getElem h, toksL_app, toksL, toksL, List.append_nil]
theorem toksM_take {l : List Mem} {k : Nat} (h : k < l.length) : toksM (l.take (k + 1)) = (toksM (l.take k) ++ [tW l[k].name, tP [58]]) ++ toksV l[k].v := by
  rw [List.take_succ_eq_append_getElem h, toksM_app]
  cases l[k]; rw [toksM, toksM]; simp [Mem.name, Mem.v]
theorem max_int (a b : Nat) : (if (b : Int) > (a : Int) then (b : Int) else (a : Int)) = ((max a b : Nat) : Int) := by
  split <;> omega
theorem vDepth : ∀ N : Nat, N ≤ 68719476736 → ∀ v : Val, v.size ≤ N → PFn Tryz.prog 335 [v.enc] (.int .i64 (depV v))
  | 0, _, v, hv => absurd hv (by have := v.size_pos; omega)
  | N + 1, hN, v, hv => by
    have ih := vDepth N (by omega)
    have hll := v.l_len
    have hml := v.m_len
    have hsp := v.size_parts
    have hd1 := depL_le v.l
    have hd2 := depM_le v.m
    refine AFn.plain rfl (by simp [AV.closedL, Val.closed]) (AFn.enter [2] Tryz.func335 rfl rfl rfl rfl rfl (by decide) ?_)
    rw [depV_eq]
    by_cases k6 : v.kind = 6
    · have q6 : (v.kind == 6) = true := by simp [k6]
      rw [if_pos k6]
      refine .gob ?_
      refine HCode.forK v.l.length (fun k => [(15, .int .i64 k), (14, .int .i64 v.lv.length), (13, .slice v.lv .no), (3, .int .i64 (depL (v.l.take k) : Nat))])
        (fun k => ⟨[], []⟩) (fun _ => True) ⟨rfl, rfl, rfl, rfl, trivial⟩ rfl trivial fun k hk _ => ?_
      by_cases h1 : k < v.l.length
      · have d1 : decide ((k : Int) < (v.lv.length : Int)) = true := by rw [v.lv_len]; simp [h1]
        have x1 := Val.lv_get h1
        have hc := ih v.l[k] (by have := Val.size_l h1; omega)
        have hm := max_int (depL (v.l.take k)) (depV v.l[k])
        rw [← depL_take h1] at hm
        repeat' first | refine .s1 ?_ | (refine .cond rfl ?_ ?_ <;> intro hc) | (refine A.guard rfl ?_ ?_ <;> intro hc) | refine A.max2 rfl rfl hm ?_ | fail
        exact ⟨h1, ⟨rfl, rfl, rfl, rfl, trivial⟩, by simp [belowS, AV.low], rfl, rfl, trivial⟩
      · have d1 : decide ((k : Int) < (v.lv.length : Int)) = false := by rw [v.lv_len]; simp; omega
        obtain rfl : k = v.l.length := by omega
        rw [List.take_length]
        refine .go ?_
        exact Fin.ret1 rfl (Weak.eq (congrArg (AV.int .i64) (by omega)))
    · have q6 : (v.kind == 6) = false := by simp [k6]
      rw [if_neg k6]
      by_cases k7 : v.kind = 7
      · have q7 : (v.kind == 7) = true := by simp [k7]
        rw [if_pos k7]
        refine .gob ?_
        refine HCode.forK v.m.length (fun k => [(29, .int .i64 k), (28, .int .i64 v.mv.length), (27, .slice v.mv .no), (3, .int .i64 (depM (v.m.take k) : Nat))])
          (fun k => ⟨[], []⟩) (fun _ => True) ⟨rfl, rfl, rfl, rfl, trivial⟩ rfl trivial fun k hk _ => ?_
        by_cases h1 : k < v.m.length
        · have d1 : decide ((k : Int) < (v.mv.length : Int)) = true := by rw [v.mv_len]; simp [h1]
          have x1 := Val.mv_get h1
          have hc := ih v.m[k].v (by have := Val.size_m h1; omega)
          have hm := max_int (depM (v.m.take k)) (depV v.m[k].v)
          rw [← depM_take h1] at hm
          repeat' first | refine .s1 ?_ | (refine .cond rfl ?_ ?_ <;> intro hc) | (refine A.guard rfl ?_ ?_ <;> intro hc) | refine A.max2 rfl rfl hm ?_ | fail
          exact ⟨h1, ⟨rfl, rfl, rfl, rfl, trivial⟩, by simp [belowS, AV.low], rfl, rfl, trivial⟩
        · have d1 : decide ((k : Int) < (v.mv.length : Int)) = false := by rw [v.mv_len]; simp; omega
          obtain rfl : k = v.m.length := by omega
          rw [List.take_length]
          refine .go ?_
          exact Fin.ret1 rfl (Weak.eq (congrArg (AV.int .i64) (by omega)))
      · have q7 : (v.kind == 7) = false := by simp [k7]
        rw [if_neg k7]
        refine .gob ?_
        exact Fin.ret1 rfl (Weak.refl _)
theorem vPlain (v : Val) (hv : v.size ≤ 68719476736) : PFn Tryz.prog 347 [v.enc] (.bool (plainV v)) := by
  have h := vall 249 nameB (fun s hs => lName s (by omega)) v.size hv v (Nat.le_refl _)
  have h2 := vDepth v.size hv v (Nat.le_refl _)
  refine AFn.plain rfl (by simp [AV.closedL, Val.closed]) (AFn.enter [2] Tryz.func347 rfl rfl rfl rfl rfl (by decide) ?_)
  unfold plainV
  have hd : decide (depV v ≤ 16) = decide ((depV v : Int) ≤ 16) := by simp only [decide_eq_decide]; omega
  rw [hd]
  cases h0 : allV nameB v with
  | true =>
    rw [h0] at h
    repeat' first | refine A.box_r rfl rfl ?_ | refine .s1 ?_ | (refine .cond rfl ?_ ?_ <;> intro hc) | (refine A.guard rfl ?_ ?_ <;> intro hc) | refine A.call rfl h (WeakL.refl _) ?_ | refine A.call rfl h2 (WeakL.refl _) ?_ | refine A.leq rfl rfl ?_ | fail
    exact Fin.ret1 rfl (Weak.refl _)
  | false =>
    rw [h0] at h
    repeat' first | refine A.box_r rfl rfl ?_ | refine .s1 ?_ | (refine .cond rfl ?_ ?_ <;> intro hc) | (refine A.guard rfl ?_ ?_ <;> intro hc) | refine A.call rfl h (WeakL.refl _) ?_ | fail
    exact Fin.ret1 rfl (Weak.refl _)
theorem fmtBool0 (b : Bool) : PFn Tryz.prog 360 [.bool b] (.str (boolS b)) := by
  refine AFn.plain rfl rfl (AFn.enter [2] Tryz.func360 rfl rfl rfl rfl rfl (by decide) ?_)
  cases b with
  | true =>
    refine .go ?_
    exact Fin.ret1 rfl (Weak.refl _)
  | false =>
    refine .go ?_
    exact Fin.ret1 rfl (Weak.refl _)
theorem fmtBool (b : Bool) : PFn Tryz.prog 353 [.bool b] (.str (boolS b)) := by
  have h := fmtBool0 b
  refine AFn.plain rfl rfl (AFn.enter [2] Tryz.func353 rfl rfl rfl rfl rfl (by decide) ?_)
  refine .go ?_
  exact Fin.ret1 rfl (Weak.refl _)
theorem v_word (s : Str) : PFn Tryz.prog 352 [.str s] (tW s).enc := by
  refine AFn.plain rfl rfl (AFn.enterR [.cell 2 293] Tryz.func352 rfl rfl rfl rfl rfl ?_)
  refine .go ?_
  exact FinR.ret1 rfl (Weak.refl _)
theorem v_punct (s : Str) : PFn Tryz.prog 354 [.str s] (tP s).enc := by
  refine AFn.plain rfl rfl (AFn.enterR [.cell 2 293] Tryz.func354 rfl rfl rfl rfl rfl ?_)
  refine .go ?_
  exact FinR.ret1 rfl (Weak.refl _)
theorem okL_mem : ∀ {l : List Val} {x : Val}, Val.okL l → x ∈ l → x.ok
  | v :: l, x, h, hx => by
    rw [Val.okL] at h
    cases hx with
    | head => exact h.1
    | tail _ hx => exact okL_mem h.2 hx
theorem okM_mem : ∀ {l : List Mem} {x : Mem}, Val.okM l → x ∈ l → x.v.ok
  | .mk _ v :: l, x, h, hx => by
    rw [Val.okM] at h
    cases hx with
    | head => exact h.1
    | tail _ hx => exact okM_mem h.2 hx
theorem Val.ok_l {v : Val} (h : v.ok) {x : Val} (hx : x ∈ v.l) : x.ok := by
  cases v; rw [Val.ok] at h; exact okL_mem h.2.2.1 hx
theorem Val.ok_m {v : Val} (h : v.ok) {x : Mem} (hx : x ∈ v.m) : x.v.ok := by
  cases v; rw [Val.ok] at h; exact okM_mem h.2.2.2 hx
theorem Val.ok_n {v : Val} (h : v.ok) : -9223372036854775808 ≤ v.n ∧ v.n ≤ 9223372036854775807 := by
  cases v
  rw [Val.ok] at h
  have := h.2.1
  unfold Lit.wf IntKind.min IntKind.max at this
  rw [Bool.and_eq_true, decide_eq_true_eq, decide_eq_true_eq] at this
  exact ⟨this.1, this.2⟩
abbrev ToksC (v : Val) (xs : List Tkn) : Prop := AFn Tryz.prog 348 [.slice (xs.map Tkn.enc) (.own 0 2), v.enc] ⟨[], [.len xs.length]⟩ (fun e σ => e = .ret (.slice ((xs ++ toksV v).map Tkn.enc) (.own 0 2)) ∧ σ = ⟨[], [.len (xs ++ toksV v).length]⟩)
theorem tok_end (xs ys : List Tkn) {n : Nat} {s : Slots} {t : Nat} {l : List AV} (hl : lk? s t = some (.slice l (.own 0 2))) (h1 : l = (xs ++ ys).map Tkn.enc) (h2 : n = (xs ++ ys).length) :
    AEnd.ret (resAV s [t]) = .ret (.slice ((xs ++ ys).map Tkn.enc) (.own 0 2)) ∧ (⟨[], [.len n]⟩ : St) = ⟨[], [.len (xs ++ ys).length]⟩ := by
  subst h1; subst h2
  exact ⟨congrArg AEnd.ret (lk_of hl), rfl⟩
theorem toksBody (v : Val) (hv : v.size ≤ 68719476736) (ho : v.ok) (ihL : ∀ x ∈ v.l, ∀ xs : List Tkn, xs.length + 2 * x.size ≤ 1099511627776 → ToksC x xs) (ihM : ∀ x ∈ v.m, ∀ xs : List Tkn, xs.length + 2 * x.v.size ≤ 1099511627776 → ToksC x.v xs) (xs : List Tkn) (hxs : xs.length + 2 * v.size ≤ 1099511627776) :
    HCode Tryz.prog Tryz.f348.ntmps [] (bodyOf Tryz.f348) (fin [4] (fun e σ => e = .ret (.slice ((xs ++ toksV v).map Tkn.enc) (.own 0 2)) ∧ σ = ⟨[], [.len (xs ++ toksV v).length]⟩))
      [(0, .slice (xs.map Tkn.enc) (.own 0 2)), (1, v.enc)] ⟨[], [.len xs.length]⟩ := by
  have hll := v.l_len
  have hml := v.m_len
  have hsp := v.size_parts
  have hpos := v.size_pos
  have hse := v.size_eq
  rw [← Val.sizeL_eq, ← Val.sizeM_eq] at hse
  have hw := v_word
  have hp := v_punct
  rw [toksV_eq]
  by_cases k0 : v.kind = 0
  · have q0 : (v.kind == 0) = true := by simp [k0]
    rw [if_pos k0]
    have h1 := v_word sNull
    repeat' first | refine .br ?_ | refine .s1 ?_ | (refine .cond rfl ?_ ?_ <;> intro hc) | (refine A.guard rfl ?_ ?_ <;> intro hc) | refine A.call rfl h1 (WeakL.refl _) ?_ | refine A.call rfl h2 (WeakL.refl _) ?_ | refine A.append (n := xs.length) rfl rfl rfl rfl rfl rfl rfl rfl (List.length_map ..) rfl (by dsimp only [List.length_cons, List.length_nil]; omega) (by dsimp only [List.length_cons, List.length_nil]; omega) rfl ?_ | fail
    exact tok_end xs _ rfl (by rw [List.map_append]; rfl) (by rw [List.length_append]; rfl)
  have q0 : (v.kind == 0) = false := by simp [k0]
  rw [if_neg k0]
  by_cases k1 : v.kind = 1
  · have q1 : (v.kind == 1) = true := by simp [k1]
    rw [if_pos k1]
    have h1 := fmtBool (v.n == 1); have h2 := v_word (boolS (v.n == 1))
    repeat' first | refine .br ?_ | refine .s1 ?_ | (refine .cond rfl ?_ ?_ <;> intro hc) | (refine A.guard rfl ?_ ?_ <;> intro hc) | refine A.call rfl h1 (WeakL.refl _) ?_ | refine A.call rfl h2 (WeakL.refl _) ?_ | refine A.append (n := xs.length) rfl rfl rfl rfl rfl rfl rfl rfl (List.length_map ..) rfl (by dsimp only [List.length_cons, List.length_nil]; omega) (by dsimp only [List.length_cons, List.length_nil]; omega) rfl ?_ | fail
    exact tok_end xs _ rfl (by rw [List.map_append]; rfl) (by rw [List.length_append]; rfl)
  have q1 : (v.kind == 1) = false := by simp [k1]
  rw [if_neg k1]
  by_cases k2 : v.kind = 2
  · have q2 : (v.kind == 2) = true := by simp [k2]
    rw [if_pos k2]
    have h1 := formatInt v.n (Val.ok_n ho).1 (Val.ok_n ho).2
    repeat' first | refine .br ?_ | refine .s1 ?_ | (refine .cond rfl ?_ ?_ <;> intro hc) | (refine A.guard rfl ?_ ?_ <;> intro hc) | refine A.call rfl h1 (WeakL.refl _) ?_ | refine A.call rfl h2 (WeakL.refl _) ?_ | refine A.append (n := xs.length) rfl rfl rfl rfl rfl rfl rfl rfl (List.length_map ..) rfl (by dsimp only [List.length_cons, List.length_nil]; omega) (by dsimp only [List.length_cons, List.length_nil]; omega) rfl ?_ | fail
    exact tok_end xs _ rfl (by rw [List.map_append]; rfl) (by rw [List.length_append]; rfl)
  have q2 : (v.kind == 2) = false := by simp [k2]
  rw [if_neg k2]
  by_cases k3 : v.kind = 3
  · have q3 : (v.kind == 3) = true := by simp [k3]
    rw [if_pos k3]
    have h1 := tNumber v.s (by have := v.size_eq; omega)
    repeat' first | refine .br ?_ | refine .s1 ?_ | (refine .cond rfl ?_ ?_ <;> intro hc) | (refine A.guard rfl ?_ ?_ <;> intro hc) | refine A.call rfl h1 (WeakL.refl _) ?_ | refine A.call rfl h2 (WeakL.refl _) ?_ | refine A.append (n := xs.length) rfl rfl rfl rfl rfl rfl rfl rfl (List.length_map ..) rfl (by dsimp only [List.length_cons, List.length_nil]; omega) (by dsimp only [List.length_cons, List.length_nil]; omega) rfl ?_ | fail
    exact tok_end xs _ rfl (by rw [List.map_append]; rfl) (by rw [List.length_append]; rfl)
  have q3 : (v.kind == 3) = false := by simp [k3]
  rw [if_neg k3]
  by_cases k4 : v.kind = 4
  · have q4 : (v.kind == 4) = true := by simp [k4]
    rw [if_pos k4]
    skip
    repeat' first | refine .br ?_ | refine .s1 ?_ | (refine .cond rfl ?_ ?_ <;> intro hc) | (refine A.guard rfl ?_ ?_ <;> intro hc) | refine A.call rfl h1 (WeakL.refl _) ?_ | refine A.call rfl h2 (WeakL.refl _) ?_ | refine A.append (n := xs.length) rfl rfl rfl rfl rfl rfl rfl rfl (List.length_map ..) rfl (by dsimp only [List.length_cons, List.length_nil]; omega) (by dsimp only [List.length_cons, List.length_nil]; omega) rfl ?_ | fail
    exact tok_end xs _ rfl (by rw [List.map_append]; rfl) (by rw [List.length_append]; rfl)
  have q4 : (v.kind == 4) = false := by simp [k4]
  rw [if_neg k4]
  by_cases k5 : v.kind = 5
  · have q5 : (v.kind == 5) = true := by simp [k5]
    rw [if_pos k5]
    have h1 := v_word v.s
    repeat' first | refine .br ?_ | refine .s1 ?_ | (refine .cond rfl ?_ ?_ <;> intro hc) | (refine A.guard rfl ?_ ?_ <;> intro hc) | refine A.call rfl h1 (WeakL.refl _) ?_ | refine A.call rfl h2 (WeakL.refl _) ?_ | refine A.append (n := xs.length) rfl rfl rfl rfl rfl rfl rfl rfl (List.length_map ..) rfl (by dsimp only [List.length_cons, List.length_nil]; omega) (by dsimp only [List.length_cons, List.length_nil]; omega) rfl ?_ | fail
    exact tok_end xs _ rfl (by rw [List.map_append]; rfl) (by rw [List.length_append]; rfl)
  have q5 : (v.kind == 5) = false := by simp [k5]
  rw [if_neg k5]
  by_cases k8 : v.kind = 8
  · have q8 : (v.kind == 8) = true := by simp [k8]
    rw [if_pos k8]
    have h1 := v_punct [36]; have h2 := v_word v.s
    repeat' first | refine .br ?_ | refine .s1 ?_ | (refine .cond rfl ?_ ?_ <;> intro hc) | (refine A.guard rfl ?_ ?_ <;> intro hc) | refine A.call rfl h1 (WeakL.refl _) ?_ | refine A.call rfl h2 (WeakL.refl _) ?_ | refine A.append (n := xs.length) rfl rfl rfl rfl rfl rfl rfl rfl (List.length_map ..) rfl (by dsimp only [List.length_cons, List.length_nil]; omega) (by dsimp only [List.length_cons, List.length_nil]; omega) rfl ?_ | fail
    exact tok_end xs _ rfl (by rw [List.map_append]; rfl) (by rw [List.length_append]; rfl)
  have q8 : (v.kind == 8) = false := by simp [k8]
  rw [if_neg k8]
  by_cases k6 : v.kind = 6
  · have q6 : (v.kind == 6) = true := by simp [k6]
    rw [if_pos k6]
    have h1 := v_punct [91]
    have h2 := v_punct [93]
    repeat' first | refine .br ?_ | refine .s1 ?_ | (refine .cond rfl ?_ ?_ <;> intro hc) | (refine A.guard rfl ?_ ?_ <;> intro hc) | refine A.call rfl h1 (WeakL.refl _) ?_ | refine A.append (n := xs.length) rfl rfl rfl rfl rfl rfl rfl rfl (List.length_map ..) rfl (by dsimp only [List.length_cons, List.length_nil]; omega) (by dsimp only [List.length_cons, List.length_nil]; omega) rfl ?_ | fail
    refine HCode.forK v.l.length (fun k => [(81, .int .i64 k), (80, .int .i64 v.lv.length), (79, .slice v.lv .no), (0, .slice (((xs ++ [tP [91]]) ++ toksL (v.l.take k)).map Tkn.enc) (.own 0 2))])
      (fun k => ⟨[], [.len ((xs ++ [tP [91]]) ++ toksL (v.l.take k)).length]⟩) (fun _ => True) ⟨rfl, rfl, rfl, by rw [List.take_zero, toksL, List.append_nil, List.map_append]; rfl, trivial⟩ (by rw [List.take_zero, toksL, List.append_nil, List.length_append]; rfl) trivial fun k hk _ => ?_
    by_cases h1 : k < v.l.length
    · have d1 : decide ((k : Int) < (v.lv.length : Int)) = true := by rw [v.lv_len]; simp [h1]
      have x1 := Val.lv_get h1
      have hlen := toksL_len (v.l.take k)
      have hlt := sizeL_take v.l (k + 1)
      have hst := sizeL_succ h1
      have hcc := ihL v.l[k] (List.getElem_mem h1) ((xs ++ [tP [91]]) ++ toksL (v.l.take k)) (by simp only [List.length_append, List.length_cons, List.length_nil]; omega)
      rw [ToksC, List.append_assoc (xs ++ [tP [91]]), ← toksL_take h1] at hcc
      repeat' first | refine .s1 ?_ | (refine .cond rfl ?_ ?_ <;> intro hc) | (refine A.guard rfl ?_ ?_ <;> intro hc) | refine A.callG 0 rfl hcc rfl (Tkn.closedL _) (Tkn.closedL _) (by simp [AV.closedL, Val.closed]) (WeakL.refl _) rfl ?_ | fail
      exact ⟨h1, ⟨rfl, rfl, rfl, rfl, trivial⟩, by simp [belowS, AV.low, -List.map_append], rfl, rfl, trivial⟩
    · have d1 : decide ((k : Int) < (v.lv.length : Int)) = false := by rw [v.lv_len]; simp; omega
      obtain rfl : k = v.l.length := by omega
      have hlen := toksL_len v.l
      rw [List.take_length]
      repeat' first | refine .s1 ?_ | (refine .cond rfl ?_ ?_ <;> intro hc) | (refine A.guard rfl ?_ ?_ <;> intro hc) | refine A.call rfl h2 (WeakL.refl _) ?_ | refine A.append (n := ((xs ++ [tP [91]]) ++ toksL v.l).length) rfl rfl rfl rfl rfl rfl rfl rfl (List.length_map ..) rfl (by dsimp only [List.length_cons, List.length_nil]; simp only [List.length_append, List.length_cons, List.length_nil]; omega) (by dsimp only [List.length_cons, List.length_nil]; simp only [List.length_append, List.length_cons, List.length_nil]; omega) rfl ?_ | fail
      exact tok_end xs _ rfl (by simp only [List.map_append, List.map_cons, List.map_nil, List.append_assoc, List.cons_append, List.nil_append]; rfl) (by simp only [List.length_append, List.length_cons, List.length_nil]; omega)
  have q6 : (v.kind == 6) = false := by simp [k6]
  rw [if_neg k6]
  have h1 := v_punct [123]
  have h2 := v_punct [125]
  repeat' first | refine .br ?_ | refine .s1 ?_ | (refine .cond rfl ?_ ?_ <;> intro hc) | (refine A.guard rfl ?_ ?_ <;> intro hc) | refine A.call rfl h1 (WeakL.refl _) ?_ | refine A.append (n := xs.length) rfl rfl rfl rfl rfl rfl rfl rfl (List.length_map ..) rfl (by dsimp only [List.length_cons, List.length_nil]; omega) (by dsimp only [List.length_cons, List.length_nil]; omega) rfl ?_ | fail
  refine HCode.forK v.m.length (fun k => [(100, .int .i64 k), (99, .int .i64 v.mv.length), (98, .slice v.mv .no), (0, .slice (((xs ++ [tP [123]]) ++ toksM (v.m.take k)).map Tkn.enc) (.own 0 2))])
    (fun k => ⟨[], [.len ((xs ++ [tP [123]]) ++ toksM (v.m.take k)).length]⟩) (fun _ => True) ⟨rfl, rfl, rfl, by rw [List.take_zero, toksM, List.append_nil, List.map_append]; rfl, trivial⟩ (by rw [List.take_zero, toksM, List.append_nil, List.length_append]; rfl) trivial fun k hk _ => ?_
  by_cases h1 : k < v.m.length
  · have d1 : decide ((k : Int) < (v.mv.length : Int)) = true := by rw [v.mv_len]; simp [h1]
    have x1 := Val.mv_get h1
    have hlen := toksM_len (v.m.take k)
    have hlt := sizeM_take v.m (k + 1)
    have hst := sizeM_succ h1
    have w1 := v_word v.m[k].name
    have w2 := v_punct [58]
    have hcc := ihM v.m[k] (List.getElem_mem h1) (((xs ++ [tP [123]]) ++ toksM (v.m.take k)) ++ [tW v.m[k].name, tP [58]]) (by simp only [List.length_append, List.length_cons, List.length_nil]; omega)
    have hcl : AV.closedL ((((xs ++ [tP [123]]) ++ toksM (v.m.take k)).map Tkn.enc) ++ [tW v.m[k].name, tP [58]].map Tkn.enc) = true := by rw [← List.map_append]; exact Tkn.closedL _
    rw [ToksC, List.map_append (l₂ := [tW v.m[k].name, tP [58]])] at hcc
    rw [show ((xs ++ [tP [123]]) ++ toksM (v.m.take k)) ++ [tW v.m[k].name, tP [58]] ++ toksV v.m[k].v = (xs ++ [tP [123]]) ++ toksM (v.m.take (k + 1)) by rw [toksM_take h1]; simp only [List.append_assoc], List.length_append (bs := [tW v.m[k].name, tP [58]])] at hcc
    repeat' first | refine .s1 ?_ | (refine .cond rfl ?_ ?_ <;> intro hc) | (refine A.guard rfl ?_ ?_ <;> intro hc) | refine A.call rfl w1 (WeakL.refl _) ?_ | refine A.call rfl w2 (WeakL.refl _) ?_ | refine A.append (n := ((xs ++ [tP [123]]) ++ toksM (v.m.take k)).length) rfl rfl rfl rfl rfl rfl rfl rfl (List.length_map ..) rfl (by dsimp only [List.length_cons, List.length_nil]; simp only [List.length_append, List.length_cons, List.length_nil]; omega) (by dsimp only [List.length_cons, List.length_nil]; simp only [List.length_append, List.length_cons, List.length_nil]; omega) rfl ?_ | refine A.callG 0 rfl hcc rfl hcl (Tkn.closedL _) (by simp [AV.closedL, Val.closed]) (WeakL.refl _) rfl ?_ | fail
    exact ⟨h1, ⟨rfl, rfl, rfl, rfl, trivial⟩, by simp [belowS, AV.low, -List.map_append], rfl, rfl, trivial⟩
  · have d1 : decide ((k : Int) < (v.mv.length : Int)) = false := by rw [v.mv_len]; simp; omega
    obtain rfl : k = v.m.length := by omega
    have hlen := toksM_len v.m
    rw [List.take_length]
    repeat' first | refine .s1 ?_ | (refine .cond rfl ?_ ?_ <;> intro hc) | (refine A.guard rfl ?_ ?_ <;> intro hc) | refine A.call rfl h2 (WeakL.refl _) ?_ | refine A.append (n := ((xs ++ [tP [123]]) ++ toksM v.m).length) rfl rfl rfl rfl rfl rfl rfl rfl (List.length_map ..) rfl (by dsimp only [List.length_cons, List.length_nil]; simp only [List.length_append, List.length_cons, List.length_nil]; omega) (by dsimp only [List.length_cons, List.length_nil]; simp only [List.length_append, List.length_cons, List.length_nil]; omega) rfl ?_ | fail
    exact tok_end xs _ rfl (by simp only [List.map_append, List.map_cons, List.map_nil, List.append_assoc, List.cons_append, List.nil_append]; rfl) (by simp only [List.length_append, List.length_cons, List.length_nil]; omega)
theorem vToksC : ∀ N : Nat, N ≤ 68719476736 → ∀ v : Val, v.size ≤ N → v.ok → ∀ xs : List Tkn, xs.length + 2 * v.size ≤ 1099511627776 → ToksC v xs
  | 0, _, v, hv => absurd hv (by have := v.size_pos; omega)
  | N + 1, hN, v, hv => fun ho xs hxs => by
    have ih := vToksC N (by omega)
    have hb := toksBody v (by omega) ho (fun x hx ys hy => ih x (by
      obtain ⟨k, hk, rfl⟩ := List.getElem_of_mem hx
      have := Val.size_l hk; omega) (Val.ok_l ho hx) ys hy) (fun x hx ys hy => ih x.v (by
      obtain ⟨k, hk, rfl⟩ := List.getElem_of_mem hx
      have := Val.size_m hk; omega) (Val.ok_m ho hx) ys hy) xs hxs
    exact AFn.enter [4] Tryz.func348 rfl rfl rfl rfl rfl (by decide) hb
theorem vToks0 (v : Val) (hv : v.size ≤ 68719476736) (ho : v.ok) : PFn Tryz.prog 348 [.slice [] .nil, v.enc] (.slice ((toksV v).map Tkn.enc) .no) := by
  have hb := toksBody v hv ho (fun x hx ys hy => vToksC 68719476736 (Nat.le_refl _) x (by
    obtain ⟨k, hk, rfl⟩ := List.getElem_of_mem hx
    have := Val.size_l hk; omega) (Val.ok_l ho hx) ys hy) (fun x hx ys hy => vToksC 68719476736 (Nat.le_refl _) x.v (by
    obtain ⟨k, hk, rfl⟩ := List.getElem_of_mem hx
    have := Val.size_m hk; omega) (Val.ok_m ho hx) ys hy) [] (by simp only [List.length_nil]; omega)
  refine AFn.plain (by simp [AV.closed, Tkn.closedL]) (by simp [AV.closed, AV.closedL, Val.closed]) (AFn.enter [4] Tryz.func348 rfl rfl rfl rfl rfl (by decide) ?_)
  refine HCode.adopt 0 false 2 rfl rfl rfl rfl rfl rfl ?_
  refine HCode.weaken (s := [(0, .slice [] (.own 0 2)), (1, v.enc)]) (hb.mono fun e s σ h => ?_) ⟨rfl, rfl, trivial⟩
  cases e with
  | normal => exact ⟨_, h.1, Weak.no (WeakL.refl _)⟩
  | ret => exact ⟨_, h.1, Weak.no (WeakL.refl _)⟩
  | pan x => exact absurd h.1 (by simp)
  | exit id => exact h
  | goto l => exact h
theorem vTokens (v : Val) (hv : v.size ≤ 68719476736) (ho : v.ok) : PFn Tryz.prog 334 [v.enc] (.tup [.slice ((if plainV v = true then toksV v else []).map Tkn.enc) .no, .bool (plainV v)]) := by
  have h1 := vPlain v hv
  have h2 := vToks0 v hv ho
  refine AFn.plain (by simp [AV.closed, AV.closedL, Tkn.closedL]) (by simp [AV.closedL, Val.closed]) (AFn.enter [2, 3] Tryz.func334 rfl rfl rfl rfl rfl (by decide) ?_)
  cases h0 : plainV v with
  | true =>
    rw [h0] at h1
    repeat' first | refine A.box_r rfl rfl ?_ | refine .s1 ?_ | (refine .cond rfl ?_ ?_ <;> intro hc) | (refine A.guard rfl ?_ ?_ <;> intro hc) | refine A.call rfl h1 (WeakL.refl _) ?_ | refine A.call rfl h2 (WeakL.refl _) ?_ | fail
    exact ⟨_, rfl, Weak.refl _⟩
  | false =>
    rw [h0] at h1
    repeat' first | refine A.box_r rfl rfl ?_ | refine .s1 ?_ | (refine .cond rfl ?_ ?_ <;> intro hc) | (refine A.guard rfl ?_ ?_ <;> intro hc) | refine A.call rfl h1 (WeakL.refl _) ?_ | fail
    exact ⟨_, rfl, Weak.tup (WeakL.cons (Weak.no (WeakL.refl _)) (WeakL.refl _))⟩
theorem eqFuncV (F : FuncId) (a b : List Val) (ha : a.length ≤ 9223372036854775806) (hb : b.length ≤ 9223372036854775806) (hF : ∀ x ∈ a, ∀ y ∈ b, PFn Tryz.prog F [x.enc, y.enc] (.bool (sameV x y))) :
    PFn Tryz.prog 331 [.slice (a.map Val.enc) .no, .slice (b.map Val.enc) .no, .fn (.func F) [] []] (.bool (sameL a b)) := by
  refine AFn.plain rfl (by simp [AV.closedL, AV.closed, Val.closedL']) (AFn.enter [6] Tryz.func331 rfl rfl rfl rfl rfl (by decide) ?_)
  by_cases hl : a.length = b.length
  · have d0 : ((a.length : Int) != (b.length : Int)) = false := by simp [hl]
    refine .go ?_
    change HCode _ _ _ _ _ _ _
    refine HCode.loop (fun n s σ => ∃ k : Nat, n = a.length - k ∧ k ≤ a.length ∧ sameL a b = sameL (a.drop k) (b.drop k) ∧ σ = ⟨[], []⟩ ∧
      s = [(17, .int .i64 k), (16, .int .i64 a.length), (15, .slice (a.map Val.enc) .no), (1, .slice (b.map Val.enc) .no), (2, .fn (.func F) [] [])])
      (s0 := [(17, .int .i64 (0 : Nat)), (16, .int .i64 a.length), (15, .slice (a.map Val.enc) .no), (1, .slice (b.map Val.enc) .no), (2, .fn (.func F) [] [])])
      ⟨rfl, rfl, rfl, rfl, rfl, trivial⟩ ⟨0, rfl, Nat.zero_le _, rfl, rfl, rfl⟩ ?_
    rintro n s σ ⟨k, rfl, hk, hp, rfl, rfl⟩
    by_cases h1 : k < a.length
    · have d1 : decide ((k : Int) < (a.length : Int)) = true := by simp [h1]
      have x1 := map_get' (f := Val.enc) h1
      have h2 : k < b.length := by omega
      have x2 := map_get' (f := Val.enc) h2
      have hf := hF a[k] (List.getElem_mem h1) b[k] (List.getElem_mem h2)
      by_cases c : sameV a[k] b[k] = true
      · have e1 : (!sameV a[k] b[k]) = false := by rw [c]; rfl
        repeat' first | refine .s1 ?_ | (refine .cond rfl ?_ ?_ <;> intro hc) | (refine A.guard rfl ?_ ?_ <;> intro hc) | refine A.callv rfl rfl hf (WeakL.refl _) ?_ | fail
        refine ⟨a.length - (k + 1), by omega, [(17, .int .i64 ((k + 1 : Nat) : Int)), (16, .int .i64 a.length), (15, .slice (a.map Val.enc) .no), (1, .slice (b.map Val.enc) .no), (2, .fn (.func F) [] [])],
          ⟨rfl, rfl, rfl, rfl, rfl, trivial⟩, by simp [belowS, AV.low, AV.lowL, Val.lowL'], rfl, k + 1, rfl, by omega, by rw [hp, sameL_drop h1 h2, c]; rfl, rfl, rfl⟩
      · have c' : sameV a[k] b[k] = false := by simpa using c
        have e1 : (!sameV a[k] b[k]) = true := by rw [c']; rfl
        repeat' first | refine .s1 ?_ | (refine .cond rfl ?_ ?_ <;> intro hc) | (refine A.guard rfl ?_ ?_ <;> intro hc) | refine A.callv rfl rfl hf (WeakL.refl _) ?_ | fail
        refine Fin.ret1 rfl (Weak.eq (congrArg AV.bool ?_))
        rw [hp, sameL_drop h1 h2, c']; rfl
    · have d1 : decide ((k : Int) < (a.length : Int)) = false := by simp; omega
      refine .go ?_
      refine Fin.ret1 rfl (Weak.eq (congrArg AV.bool ?_))
      rw [hp, List.drop_eq_nil_of_le (by omega), List.drop_eq_nil_of_le (by omega)]
      rfl
  · have d0 : ((a.length : Int) != (b.length : Int)) = true := by simp; omega
    refine .go ?_
    exact Fin.ret1 rfl (Weak.eq (by rw [sameL_len hl]))
theorem eqFuncM (F : FuncId) (a b : List Mem) (ha : a.length ≤ 9223372036854775806) (hb : b.length ≤ 9223372036854775806) (hF : ∀ x ∈ a, ∀ y ∈ b, PFn Tryz.prog F [x.enc, y.enc] (.bool (x.name == y.name && sameV x.v y.v))) :
    PFn Tryz.prog 332 [.slice (a.map Mem.enc) .no, .slice (b.map Mem.enc) .no, .fn (.func F) [] []] (.bool (sameM a b)) := by
  refine AFn.plain rfl (by simp [AV.closedL, AV.closed, Mem.closedL]) (AFn.enter [6] Tryz.func332 rfl rfl rfl rfl rfl (by decide) ?_)
  by_cases hl : a.length = b.length
  · have d0 : ((a.length : Int) != (b.length : Int)) = false := by simp [hl]
    refine .go ?_
    change HCode _ _ _ _ _ _ _
    refine HCode.loop (fun n s σ => ∃ k : Nat, n = a.length - k ∧ k ≤ a.length ∧ sameM a b = sameM (a.drop k) (b.drop k) ∧ σ = ⟨[], []⟩ ∧
      s = [(17, .int .i64 k), (16, .int .i64 a.length), (15, .slice (a.map Mem.enc) .no), (1, .slice (b.map Mem.enc) .no), (2, .fn (.func F) [] [])])
      (s0 := [(17, .int .i64 (0 : Nat)), (16, .int .i64 a.length), (15, .slice (a.map Mem.enc) .no), (1, .slice (b.map Mem.enc) .no), (2, .fn (.func F) [] [])])
      ⟨rfl, rfl, rfl, rfl, rfl, trivial⟩ ⟨0, rfl, Nat.zero_le _, rfl, rfl, rfl⟩ ?_
    rintro n s σ ⟨k, rfl, hk, hp, rfl, rfl⟩
    by_cases h1 : k < a.length
    · have d1 : decide ((k : Int) < (a.length : Int)) = true := by simp [h1]
      have x1 := map_get' (f := Mem.enc) h1
      have h2 : k < b.length := by omega
      have x2 := map_get' (f := Mem.enc) h2
      have hf := hF a[k] (List.getElem_mem h1) b[k] (List.getElem_mem h2)
      by_cases c : (a[k].name == b[k].name && sameV a[k].v b[k].v) = true
      · have e1 : (!(a[k].name == b[k].name && sameV a[k].v b[k].v)) = false := by rw [c]; rfl
        repeat' first | refine .s1 ?_ | (refine .cond rfl ?_ ?_ <;> intro hc) | (refine A.guard rfl ?_ ?_ <;> intro hc) | refine A.callv rfl rfl hf (WeakL.refl _) ?_ | fail
        refine ⟨a.length - (k + 1), by omega, [(17, .int .i64 ((k + 1 : Nat) : Int)), (16, .int .i64 a.length), (15, .slice (a.map Mem.enc) .no), (1, .slice (b.map Mem.enc) .no), (2, .fn (.func F) [] [])],
          ⟨rfl, rfl, rfl, rfl, rfl, trivial⟩, by simp [belowS, AV.low, AV.lowL, Mem.lowL], rfl, k + 1, rfl, by omega, by rw [hp, sameM_drop h1 h2, c]; rfl, rfl, rfl⟩
      · have c' : (a[k].name == b[k].name && sameV a[k].v b[k].v) = false := by simpa using c
        have e1 : (!(a[k].name == b[k].name && sameV a[k].v b[k].v)) = true := by rw [c']; rfl
        repeat' first | refine .s1 ?_ | (refine .cond rfl ?_ ?_ <;> intro hc) | (refine A.guard rfl ?_ ?_ <;> intro hc) | refine A.callv rfl rfl hf (WeakL.refl _) ?_ | fail
        refine Fin.ret1 rfl (Weak.eq (congrArg AV.bool ?_))
        rw [hp, sameM_drop h1 h2, c']; rfl
    · have d1 : decide ((k : Int) < (a.length : Int)) = false := by simp; omega
      refine .go ?_
      refine Fin.ret1 rfl (Weak.eq (congrArg AV.bool ?_))
      rw [hp, List.drop_eq_nil_of_le (by omega), List.drop_eq_nil_of_le (by omega)]
      rfl
  · have d0 : ((a.length : Int) != (b.length : Int)) = true := by simp; omega
    refine .go ?_
    exact Fin.ret1 rfl (Weak.eq (by rw [sameM_len hl]))
theorem vSame : ∀ (N : Nat) (a b : Val), a.size ≤ N → N ≤ 9223372036854775806 → b.size ≤ 9223372036854775806 → PFn Tryz.prog 312 [a.enc, b.enc] (.bool (sameV a b))
  | 0, a, _, ha, _, _ => absurd ha (by have := a.size_pos; omega)
  | N + 1, a, b, ha, hN, hb => by
    have ih := vSame N
    have hl := eqFuncV 312 a.l b.l (by have := a.l_len; omega) (by have := b.l_len; omega) (fun x hx y hy => by
      obtain ⟨i, hi, rfl⟩ := List.getElem_of_mem hx
      obtain ⟨j, hj, rfl⟩ := List.getElem_of_mem hy
      have h1 := Val.size_l hi
      have h2 := Val.size_l hj
      exact ih _ _ (by omega) (by omega) (by omega))
    have hm := eqFuncM 333 a.m b.m (by have := a.m_len; omega) (by have := b.m_len; omega) (fun x hx y hy => by
      obtain ⟨i, hi, rfl⟩ := List.getElem_of_mem hx
      obtain ⟨j, hj, rfl⟩ := List.getElem_of_mem hy
      have h1 := Val.size_m hi
      have h2 := Val.size_m hj
      have hv := ih a.m[i].v b.m[j].v (by omega) (by omega) (by omega)
      refine AFn.plain rfl (by simp [AV.closedL, Mem.closed]) (AFn.enter [4] Tryz.func333 rfl rfl rfl rfl rfl (by decide) ?_)
      repeat' first | refine A.box_r rfl rfl ?_ | refine .s1 ?_ | (refine .cond rfl ?_ ?_ <;> intro hc) | (refine A.guard rfl ?_ ?_ <;> intro hc) | refine A.call rfl hv (WeakL.refl _) ?_ | fail
      all_goals
        refine Fin.ret1 rfl (Weak.eq (congrArg AV.bool ?_))
        simp_all)
    rw [← a.lv_eq, ← b.lv_eq] at hl
    rw [← a.mv_eq, ← b.mv_eq] at hm
    refine AFn.plain rfl (by simp [AV.closedL, Val.closed]) (AFn.enter [4] Tryz.func312 rfl rfl rfl rfl rfl (by decide) ?_)
    rw [sameV_eq]
    repeat' first | refine A.box_r rfl rfl ?_ | refine .s1 ?_ | (refine .cond rfl ?_ ?_ <;> intro hc) | (refine A.guard rfl ?_ ?_ <;> intro hc) | refine A.call rfl hl (WeakL.refl _) ?_ | refine A.call rfl hm (WeakL.refl _) ?_ | fail
    all_goals
      refine Fin.ret1 rfl (Weak.eq (congrArg AV.bool ?_))
      simp_all
structure WS where
  l : List Tkn
  ok : Bool
def WS.cs (W : WS) : List AV := [.slice (W.l.map Tkn.enc) (.own 0 2), .bool W.ok, .int .i64 0]
theorem WS.low (W : WS) : AV.lowL 1 1 W.cs = true := by simp [WS.cs, AV.lowL, AV.low]
theorem low_snoc (l : List Tkn) (s : Str) : AV.lowL 1 1 (List.map Tkn.enc l ++ [AV.agg [AV.int .i64 1, AV.str s]]) = true := by
  have := lowL_Tkn 1 1 (l ++ [tP s])
  rwa [List.map_append] at this
abbrev WC (f : FuncId) (x0 : AV) (vals : List AV) (W W' : WS) : Prop := AFn Tryz.prog f (x0 :: vals) ⟨[.cells W.cs], [.len W.l.length]⟩ (fun e σ1 => e = .ret (.tup []) ∧ σ1 = ⟨[.cells W'.cs], [.len W'.l.length]⟩)
section
variable {all : Array Oper} {draw : Bool} {K : AX → Slots → St → Prop} {rest : List Oper} {acc : List Tag} {s : Slots} {σ : St} {ty : TypeId} {pos : String} {af : Array Edge}
theorem A.callWC {d : Option Tmp} {f : FuncId} {args : Array Operand} {tys : Array TypeId} {x0 : AV} {vals vals0 : List AV} {W W' : WS} {B : List Ob} {T : List Tok}
    (hp : WC f x0 vals0 W W') (ha : evsK s args.toList some = some (x0 :: vals)) (hσ : σ = ⟨.cells W.cs :: B, .len W.l.length :: T⟩)
    (hx0 : x0.low 1 1 = true) (hc : AV.closedL vals0 = true) (hw : WeakL vals vals0)
    (kk : AOps Tryz.prog all draw K rest (.all :: acc) (putS d (.tup []) s) ⟨.cells W'.cs :: B, .len W'.l.length :: T⟩) : AOps Tryz.prog all draw K (⟨d, .call ⟨.value (.func f), args, tys⟩, ty, pos, af, none⟩ :: rest) acc s σ :=
  A.callW hp ha hσ hx0 hc W.low W'.low rfl hw kk
end
theorem WC.of {f : FuncId} {x0 : AV} {vals : List AV} {W W' : WS} (h : AFn Tryz.prog f (x0 :: vals) ⟨[.cells W.cs], [.len W.l.length]⟩ (fun e σ1 => e = .ret (.tup []) ∧ σ1.B.take 1 = [.cells W'.cs] ∧ σ1.T.take 1 = [.len W'.l.length])) : WC f x0 vals W W' :=
  AFn.dropped (AFn.mono h fun e σ1 hh => ⟨.tup [], 1, 1, hh.1, Nat.le_refl _, Nat.le_refl _, rfl, by rw [hh.2.1]; simp [belowB, Ob.low, WS.low], by rw [hh.2.2]; rfl, rfl, by rw [hh.2.1, hh.2.2]⟩)
theorem ws_app (l ys : List Tkn) (ok : Bool) : (⟨[.cells [.slice (l.map Tkn.enc ++ ys.map Tkn.enc) (.own 0 2), .bool ok, .int .i64 0]], [.len (l.length + (ys.map Tkn.enc).length)]⟩ : St) = ⟨[.cells (WS.mk (l ++ ys) ok).cs], [.len (WS.mk (l ++ ys) ok).l.length]⟩ := by
  simp [WS.cs]
def wNeed (b : Bool) (W : WS) : WS := ⟨W.l, W.ok && b⟩
def wMark (s : Str) (W : WS) : WS := ⟨W.l ++ [tP s], W.ok⟩
def wName (s : Str) (W : WS) : WS := ⟨W.l ++ [tW s], W.ok && nameB s⟩
def wVal (v : Val) (fixed : Bool) (W : WS) : WS := ⟨W.l ++ (if plainV v = true then toksV v else []), W.ok && (plainV v && !(fixed && decide (varsV v [] ≠ [])))⟩
def wDflt (has : Bool) (v : Val) (W : WS) : WS := if has = true then wVal v true (wMark [61] W) else wNeed (sameV v val0) W
theorem cNeed (W : WS) (b : Bool) : WC 259 (.ptr 0 0) [.bool b] W (wNeed b W) := by
  obtain ⟨l, ok⟩ := W
  refine AFn.enter [] Tryz.func259 rfl rfl rfl rfl rfl (by decide) ?_
  unfold wNeed WS.cs
  cases ok with
  | true =>
    repeat' first | refine .s1 ?_ | (refine .cond rfl ?_ ?_ <;> intro hc) | (refine A.guard rfl ?_ ?_ <;> intro hc) | refine A.nilPtr rfl ?_ | fail
    exact ⟨rfl, rfl⟩
  | false =>
    repeat' first | refine .s1 ?_ | (refine .cond rfl ?_ ?_ <;> intro hc) | (refine A.guard rfl ?_ ?_ <;> intro hc) | refine A.nilPtr rfl ?_ | fail
    exact ⟨rfl, rfl⟩
theorem cName (W : WS) (s : Str) (hs : s.length ≤ 1048640) (hW : W.l.length ≤ 1099511627776) : WC 221 (.ptr 0 0) [.str s] W (wName s W) := by
  have h1 := lName s (by omega)
  have h2 := cNeed W (nameB s)
  obtain ⟨l, ok⟩ := W
  simp only at hW
  refine AFn.enter [] Tryz.func221 rfl rfl rfl rfl rfl (by decide) ?_
  repeat' first | refine .s1 ?_ | (refine .cond rfl ?_ ?_ <;> intro hc) | (refine A.guard rfl ?_ ?_ <;> intro hc) | refine A.nilPtr rfl ?_ | refine A.callWC h2 rfl rfl rfl rfl (WeakL.refl _) ?_ | refine A.append (n := l.length) rfl rfl rfl rfl rfl rfl rfl rfl (List.length_map ..) rfl (by dsimp only [List.length_cons, List.length_nil]; omega) (by dsimp only [List.length_cons, List.length_nil]; omega) rfl ?_ | fail
  exact ⟨rfl, ws_app l [tW s] _⟩
theorem cMark (W : WS) (s : Str) (hW : W.l.length ≤ 1099511627776) : WC 222 (.ptr 0 0) [.slice [.str s] .no] W (wMark s W) := by
  obtain ⟨l, ok⟩ := W
  simp only at hW
  refine AFn.enter [] Tryz.func222 rfl rfl rfl rfl rfl (by decide) ?_
  refine .go ?_
  refine HCode.forK 1 (fun k => [(8, .int .i64 k), (7, .int .i64 1), (6, .slice [.str s] .no), (0, .ptr 0 0)])
    (fun k => ⟨[.cells (if k = 0 then WS.mk l ok else wMark s ⟨l, ok⟩).cs], [.len (if k = 0 then WS.mk l ok else wMark s ⟨l, ok⟩).l.length]⟩) (fun _ => True) ⟨rfl, rfl, rfl, rfl, trivial⟩ rfl trivial fun k hk _ => ?_
  match k, hk with
  | 0, _ =>
    have d1 : decide (((0 : Nat) : Int) < 1) = true := rfl
    have x1 : ([AV.str s] : List AV)[0]? = some (.str s) := rfl
    repeat' first | refine .s1 ?_ | (refine .cond rfl ?_ ?_ <;> intro hc) | (refine A.guard rfl ?_ ?_ <;> intro hc) | refine A.nilPtr rfl ?_ | refine A.append (n := l.length) rfl rfl rfl rfl rfl rfl rfl rfl (List.length_map ..) rfl (by dsimp only [List.length_cons, List.length_nil]; omega) (by dsimp only [List.length_cons, List.length_nil]; omega) rfl ?_ | fail
    exact ⟨Nat.one_pos, ⟨rfl, rfl, rfl, rfl, trivial⟩, rfl, (by simp [belowB, belowT, Ob.low, AV.lowL, AV.low, Tok.low]; exact low_snoc l s), ws_app l [tP s] _, trivial⟩
  | 1, _ =>
    have d1 : decide (((1 : Nat) : Int) < 1) = false := rfl
    refine .go ?_
    exact ⟨rfl, rfl⟩
theorem cValue (W : WS) (v : Val) (fixed : Bool) (hv : v.size ≤ 1048640) (ho : v.ok) (hW : W.l.length ≤ 1099511627776) : WC 313 (.ptr 0 0) [v.enc, .bool fixed] W (wVal v fixed W) := by
  have h1 := vTokens v (by omega) ho
  have h2 := cNeed W (plainV v && !(fixed && decide (varsV v [] ≠ [])))
  have h3 := vDepth v.size (by omega) v (Nat.le_refl _)
  have h4 := vVars v (by omega)
  have hl := toksV_len v
  have hdl := depV_le v
  obtain ⟨l, ok⟩ := W
  simp only at hW
  refine AFn.enter [] Tryz.func313 rfl rfl rfl rfl rfl (by decide) ?_
  unfold wVal
  generalize hT : (if plainV v = true then toksV v else []) = ys at *
  have hys : ys.length ≤ 137438953472 := by
    rw [← hT]
    split
    · omega
    · exact Nat.zero_le _
  have hym : (ys.map Tkn.enc).length = ys.length := List.length_map ..
  cases hp : plainV v with
  | false =>
    rw [hp] at h1 h2
    repeat' first | refine .br ?_ | refine .s1 ?_ | (refine .cond rfl ?_ ?_ <;> intro hc) | (refine A.guard rfl ?_ ?_ <;> intro hc) | refine A.nilPtr rfl ?_ | refine A.callWC h2 rfl rfl rfl rfl (WeakL.refl _) ?_ | refine A.append (n := l.length) rfl rfl rfl rfl rfl rfl rfl rfl (List.length_map ..) (Tkn.fitsAll _) (by rw [hym]; dsimp only; omega) (by rw [hym]; omega) rfl ?_ | fail
    exact ⟨rfl, ws_app l ys _⟩
  | true =>
    rw [hp] at h1 h2
    have hd : decide ((0 : Int) + (depV v : Int) ≤ 16) = true := by
      unfold plainV at hp
      simp only [Bool.and_eq_true, decide_eq_true_eq] at hp
      exact decide_eq_true (by omega)
    cases fixed with
    | false =>
      repeat' first | refine .br ?_ | refine .s1 ?_ | (refine .cond rfl ?_ ?_ <;> intro hc) | (refine A.guard rfl ?_ ?_ <;> intro hc) | refine A.nilPtr rfl ?_ | refine A.callWC h2 rfl rfl rfl rfl (WeakL.refl _) ?_ | refine A.append (n := l.length) rfl rfl rfl rfl rfl rfl rfl rfl (List.length_map ..) (Tkn.fitsAll _) (by rw [hym]; dsimp only; omega) (by rw [hym]; omega) rfl ?_ | fail
      exact ⟨rfl, ws_app l ys _⟩
    | true =>
      have d1 : (true && !(true && decide (varsV v [] ≠ []))) = !decide (0 < ((varsV v []).length : Int)) := by
        cases varsV v [] <;> simp <;> omega
      rw [d1] at h2 ⊢
      repeat' first | refine .br ?_ | refine .s1 ?_ | (refine .cond rfl ?_ ?_ <;> intro hc) | (refine A.guard rfl ?_ ?_ <;> intro hc) | refine A.nilPtr rfl ?_ | refine A.callWC h2 rfl rfl rfl rfl (WeakL.refl _) ?_ | refine A.append (n := l.length) rfl rfl rfl rfl rfl rfl rfl rfl (List.length_map ..) (Tkn.fitsAll _) (by rw [hym]; dsimp only; omega) (by rw [hym]; omega) rfl ?_ | fail
      exact ⟨rfl, ws_app l ys _⟩
theorem cDflt (W : WS) (has : Bool) (v : Val) (hv : v.size ≤ 1048640) (ho : v.ok) (hW : W.l.length ≤ 1099511627775) : WC 290 (.ptr 0 0) [.bool has, v.enc] W (wDflt has v W) := by
  have h1 := vSame v.size v val0 (Nat.le_refl _) (by omega) (by decide)
  have h2 := cNeed W (sameV v val0)
  have h3 := cMark W [61] (by omega)
  have h4 := cValue (wMark [61] W) v true hv ho (by unfold wMark; simp only [List.length_append, List.length_cons, List.length_nil]; omega)
  refine AFn.enter [] Tryz.func290 rfl rfl rfl rfl rfl (by decide) ?_
  unfold wDflt
  cases has with
  | true =>
    rw [if_pos rfl]
    repeat' first | refine .br ?_ | refine .s1 ?_ | (refine .cond rfl ?_ ?_ <;> intro hc) | (refine A.guard rfl ?_ ?_ <;> intro hc) | refine A.callWC h3 rfl rfl rfl rfl (WeakL.cons (Weak.no (WeakL.refl _)) (WeakL.refl _)) ?_ | refine A.callWC h4 rfl rfl rfl (by simp [AV.closedL, AV.closed, Val.closed]) (WeakL.refl _) ?_ | fail
    exact ⟨rfl, rfl⟩
  | false =>
    rw [if_neg (by simp)]
    repeat' first | refine .br ?_ | refine .s1 ?_ | (refine .cond rfl ?_ ?_ <;> intro hc) | (refine A.guard rfl ?_ ?_ <;> intro hc) | refine A.callWC h2 rfl rfl rfl rfl (WeakL.refl _) ?_ | refine A.call rfl h1 (WeakL.cons (Weak.refl _) (WeakL.cons weak_flatV (WeakL.refl _))) ?_ | fail
    exact ⟨rfl, rfl⟩
end Go.Proofs.YtgghkkeejagfkaaGreatDoor
