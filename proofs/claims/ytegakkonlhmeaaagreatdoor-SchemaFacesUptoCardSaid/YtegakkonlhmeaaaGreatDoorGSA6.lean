/-
  What the packages print, sdl, defs, schema tell of a schema, in plain words.
  The library's FormatInt at 10; its text is good.
  Tokens of values: value.Depth, Plain, tokens, Tokens. The rule for max; calls of a writer's methods.
-/
import Derived.Test.YtegakkonlhmeaaaGreatDoorGSA3
import Derived.Test.YtegakkonlhmeaaaGreatDoorGSA5
import Derived.Lib.ItoaNum
import Derived.Lib.AppendIntMem
import Derived.Lib.ValidLaws
import Derived.Test.YtegakkonlhmeaaaGreatDoorAvTab
import Derived.Test.YtegakkonlhmeaaaGreatDoorAvMap
import Derived.Test.YtegakkonlhmeaaaGreatDoorShelfF
import Derived.Test.YtegakkonlhmeaaaGreatDoorGSA2
import Derived.Test.YtegakkonlhmeaaaGreatDoorAvRen4
namespace Go.Proofs.YtegakkonlhmeaaaGreatDoor
open Go Go.Av
set_option maxRecDepth 100000
set_option linter.unusedVariables false
set_option linter.unusedSimpArgs false

mutual
/-- How deep lists and maps lie. -/
def depV : Val → Nat
  | .mk k _ _ l m => if k = 6 then depL l + 1 else if k = 7 then depM m + 1 else 0
def depL : List Val → Nat
  | [] => 0
  | v :: l => max (depV v) (depL l)
def depM : List Mem → Nat
  | [] => 0
  | .mk _ v :: m => max (depV v) (depM m)
end
theorem depV_eq (v : Val) : depV v = if v.kind = 6 then depL v.l + 1 else if v.kind = 7 then depM v.m + 1 else 0 := by cases v; rw [depV]; rfl
mutual
theorem depV_le : ∀ v : Val, depV v < v.size
  | .mk k n s l m => by
    have h1 := depL_le l
    have h2 := depM_le m
    rw [depV, Val.size]
    split
    · omega
    · split <;> omega
theorem depL_le : ∀ l : List Val, depL l ≤ Val.sizeL l
  | [] => by rw [depL]; omega
  | v :: l => by
    have h1 := depV_le v
    have h2 := depL_le l
    rw [depL, Val.sizeL]; omega
theorem depM_le : ∀ m : List Mem, depM m ≤ Val.sizeM m
  | [] => by rw [depM]; omega
  | .mk n v :: m => by
    have h1 := depV_le v
    have h2 := depM_le m
    rw [depM, Val.sizeM]; omega
end
theorem depL_app : ∀ a b : List Val, depL (a ++ b) = max (depL a) (depL b)
  | [], b => by rw [List.nil_append, depL]; omega
  | v :: a, b => by rw [List.cons_append, depL, depL, depL_app a b]; omega
theorem depM_app : ∀ a b : List Mem, depM (a ++ b) = max (depM a) (depM b)
  | [], b => by rw [List.nil_append, depM]; omega
  | .mk n v :: a, b => by rw [List.cons_append, depM, depM, depM_app a b]; omega
theorem depL_take {l : List Val} {k : Nat} (h : k < l.length) : depL (l.take (k + 1)) = max (depL (l.take k)) (depV l[k]) := by
  rw [List.take_succ_eq_append_getElem h, depL_app, depL, depL]; omega
theorem depM_take {l : List Mem} {k : Nat} (h : k < l.length) : depM (l.take (k + 1)) = max (depM (l.take k)) (depV l[k].v) := by
  rw [List.take_succ_eq_append_getElem h, depM_app]
  congr 1
  cases hx : l[k]; rw [depM, depM]
  exact Nat.max_zero _

/-- May a value stand in a document? -/
def plainV (v : Val) : Bool := allV nameB v && decide (depV v ≤ 16)
/-- .. where no variables are? -/
def valFix (v : Val) : Bool := plainV v && decide (varsV v [] = [])
def dfltOk (p : Par) : Bool := if p.has = true then valFix p.d else sameV p.d val0
def parOk (p : Par) : Bool := nameB p.name && (rightT p.t && dfltOk p)
def argsOk (m : List Mem) : Bool := m.all fun x => nameB x.name && valFix x.v
def dirOk (d : Dirc) : Bool := nameB d.name && argsOk d.args
def fldOk (f : Fld) : Bool := nameB f.name && (f.params.all parOk && (rightT f.t && f.dirs.all dirOk))
def sTrue : Str := [116, 114, 117, 101]
def sFalse : Str := [102, 97, 108, 115, 101]
def sNull : Str := [110, 117, 108, 108]
def partOk (s : Str) : Bool := (s != sTrue && (s != sFalse && s != sNull)) && nameB s
def dfnOk (d : Dfn) : Bool :=
  if d.kind = 1 ∨ d.kind = 2 then (decide (d.fields ≠ []) && decide (d.parts = [] ∧ d.params = [])) && (nameB d.name && (d.faces.all nameB && d.fields.all fldOk))
  else if d.kind = 3 then (decide (d.parts ≠ []) && decide (d.faces = [] ∧ d.fields = [] ∧ d.params = [])) && (nameB d.name && d.parts.all nameB)
  else if d.kind = 4 then (decide (d.parts ≠ []) && decide (d.faces = [] ∧ d.fields = [] ∧ d.params = [])) && (nameB d.name && d.parts.all partOk)
  else if d.kind = 5 then (decide (d.params ≠ []) && decide (d.faces = [] ∧ d.fields = [] ∧ d.parts = [])) && (nameB d.name && d.params.all parOk)
  else false
/-- sdl.Right -/
def sdlOk (s : Sch) : Bool := nameB s.query && ((s.mutation == [] || nameB s.mutation) && s.defs.all dfnOk)

/-- Does a name begin as the program's own do? -/
def own2 (n : Str) : Bool := n.take 2 == [95, 95]
def onceB (l : List Str) : Bool := decide l.Nodup
def foreignB (l : List Str) : Bool := !l.any own2
def goodNames (l : List Str) : Bool := onceB l && foreignB l
def everyB (s : Sch) (f : Dfn → Bool) : Bool := !s.defs.any fun d => !f d
def dNames (s : Sch) : List Str := s.defs.map Dfn.name
def namedB (s : Sch) : Bool := sdlOk s && (onceB (dNames s) && (foreignB (dNames s) && !(dNames s).any fun n => kindB s n [0]))
def rootsB (s : Sch) : Bool := kindB s s.query [1] && (s.mutation == [] || (s.mutation != s.query && kindB s s.mutation [1]))
def sole1 (d : Dfn) : Bool := goodNames (d.fields.map Fld.name) && (goodNames (d.params.map Par.name) && (onceB d.parts && (onceB d.faces && !d.fields.any fun f => !goodNames (f.params.map Par.name))))
def soleB (s : Sch) : Bool := everyB s sole1
def entriesB (s : Sch) (l : List Par) : Bool := !l.any fun p => !entryB s p.t.name
def typed1 (s : Sch) (d : Dfn) : Bool := entriesB s d.params && !d.fields.any fun f => ((!leafB s f.t.name && !compB s f.t.name) || !entriesB s f.params)
def typedB (s : Sch) : Bool := everyB s (typed1 s)
/-- Is a face not as it must be? -/
def face2 (s : Sch) (d : Dfn) (n : Str) : Bool := !(findR s n).2 || ((findR s n).1.kind != 2 || (n == d.name || (findR s n).1.faces.any fun m => !decide (m ∈ d.faces)))
def faces1 (s : Sch) (d : Dfn) : Bool := !d.faces.any (face2 s d)
def facesB (s : Sch) : Bool := everyB s (faces1 s)

/-! Which objects a name may be. -/
def possF (l : List Str) (d : Dfn) (name : Str) : List Str := if d.kind = 1 ∧ name ∈ d.faces then addNew l d.name else l
def possU (s : Sch) (l : List Str) (p : Str) : List Str := if kindB s p [1] = true then addNew l p else l
def possB (s : Sch) (name : Str) : List Str :=
  match findO s name with
  | none => []
  | some d => if d.kind = 1 then [name] else if d.kind = 2 then s.defs.foldl (fun l x => possF l x name) [] else if d.kind = 3 then d.parts.foldl (possU s) [] else []
def meetsB (s : Sch) (a b : Str) : Bool := (possB s a).any fun x => decide (x ∈ possB s b)
/-- Bits that another number has not. -/
def andNotI (m n : Int) : Int := IntKind.i64.wrap (((BitVec.ofInt IntKind.i64.bits m) &&& ~~~(BitVec.ofInt IntKind.i64.bits n)).toNat : Int)
/-- wrap.Sub -/
def subT (a b : Typ) : Bool := rightT a && (rightT b && (a.name == b.name && (a.lists == b.lists && andNotI b.musts a.musts == 0)))
/-- defs.Sub -/
def subB (s : Sch) (a b : Typ) : Bool :=
  (rightT a && subT ⟨b.name, a.lists, a.musts⟩ b) && (a.name == b.name || ((findR s a.name).2 &&
    (((findR s a.name).1.kind == 1 && decide (a.name ∈ possB s b.name)) || ((findR s a.name).1.kind == 2 && (kindB s b.name [2] && decide (b.name ∈ (findR s a.name).1.faces))))))
def fldO (l : List Fld) (name : Str) : Option Fld := l.find? (fun f => f.name == name)
/-- Does a field take what another one takes, and needs no more? -/
def takesB (f g : Fld) : Bool :=
  (g.params.all fun p => match parO f.params p.name with | none => false | some q => decide (q.t = p.t)) && (f.params.all fun q => !((parO g.params q.name).isNone && reqB q))
def hasB (s : Sch) (d : Dfn) (face : Str) : Bool := (findR s face).1.fields.all fun g => match fldO d.fields g.name with | none => false | some f => subB s f.t g.t && takesB f g
def kept1 (s : Sch) (d : Dfn) : Bool := !d.faces.any fun n => !hasB s d n
def keptB (s : Sch) : Bool := everyB s (kept1 s)
def parts1 (s : Sch) (d : Dfn) : Bool := d.kind != 3 || !d.parts.any fun n => !kindB s n [1]
def partsB (s : Sch) : Bool := everyB s (parts1 s)

/-! Inputs that need themselves. -/
def needP (s : Sch) (p : Par) : Bool := decide (p.t.lists = 0) && (isT p.t && kindB s p.t.name [5])
def needAdd (s : Sch) (l : List Str) (p : Par) : List Str := if needP s p = true then addNew l p.t.name else l
def needsP (s : Sch) (name : Str) : List Str := (findR s name).1.params.foldl (needAdd s) []
/-- A list, with what its members need put behind, from place i on. -/
def closeF (next : Str → List Str) : Nat → Nat → List Str → List Str
  | 0, _, l => l
  | n + 1, i, l => match l[i]? with
    | none => l
    | some x => closeF next n (i + 1) ((next x).foldl addNew l)
def allTs (s : Sch) : List Str := s.defs.flatMap fun d => d.params.map fun p => p.t.name
def ringsB (s : Sch) (name : Str) : Bool := decide (name ∈ closeF (needsP s) (allTs s).length 0 (needsP s name))
def open1 (s : Sch) (d : Dfn) : Bool := d.kind != 5 || !ringsB s d.name
def openB (s : Sch) : Bool := everyB s (open1 s)

def rightB (s : Sch) (l : List Par) : Bool := !l.any fun p => p.has && !litR s p.t p.d
def dflts1 (s : Sch) (d : Dfn) : Bool := rightB s d.params && (!(d.params.any fun p => p.has && !leafB s p.t.name) && !d.fields.any fun f => !rightB s f.params)
def dfltsB (s : Sch) : Bool := everyB s (dflts1 s)
def ruleB (s : Sch) (n : Int) : Bool :=
  if n = 1 then namedB s else if n = 2 then rootsB s else if n = 3 then soleB s else if n = 4 then typedB s else if n = 5 then facesB s else if n = 6 then keptB s else if n = 7 then partsB s else if n = 8 then openB s else if n = 9 then dfltsB s else false
/-- From a rule on: the first one that is not kept. -/
def checkF (s : Sch) : Nat → Int → Int
  | 0, _ => 0
  | k + 1, n => if ruleB s n = true then checkF s k (n + 1) else n
def checkI (s : Sch) : Int := checkF s 9 1
end Go.Proofs.YtegakkonlhmeaaaGreatDoor
namespace Go.Proofs.YtegakkonlhmeaaaGreatDoor
open Go Go.Av
set_option maxRecDepth 100000
set_option linter.unusedVariables false
set_option linter.unusedSimpArgs false

theorem tab_is {w : World} {im : Nat → Nat → Prop} (hgl : GlobOk im w) : Lib.TabIs Tryz.prog w "internal/strconv.uint64pow10" .u64 Lib.pow10Tab := by
  have h0 := GlobOk.rep (g := ⟨[], [], im⟩) hgl (p := (2, .agg (Lib.pow10Tab.map (AV.int .u64)))) (.tail _ (.tail _ (.head _)))
  have hn := (hgl.2 (2, 20) (.head _)).2
  have hc := fun i z hz => tab_cells h0 i z hz
  unfold Lib.TabIs World.var?
  rw [show Tryz.prog.globalNamed "internal/strconv.uint64pow10" = some 2 by kernel_rfl, Option.bind_some]
  have c0 := hc 0 1 (by decide)
  unfold World.cell? at c0 hn hc
  dsimp only at c0 hn hc
  split at c0
  case h_2 => cases c0
  case h_1 cs e fz hh =>
    rw [hh] at hn hc
    simp only [Option.isSome_none, Bool.false_eq_true, if_false] at hn hc
    rw [hh]
    refine congrArg some (Array.ext_getElem? fun i => ?_)
    simp only [List.getElem?_toArray, List.getElem?_map, Array.getElem?_toList]
    by_cases hi : i < 20
    · have hl : i < Lib.pow10Tab.length := by rw [Lib.pow10Tab_length]; exact hi
      rw [hc i Lib.pow10Tab[i] (List.getElem?_eq_getElem hl), List.getElem?_eq_getElem hl]; rfl
    · rw [List.getElem?_eq_none (by rw [Lib.pow10Tab_length]; omega), Array.getElem?_eq_none (by have := Array.getElem?_eq_none_iff.1 hn; omega)]; rfl
theorem formatInt (n : Int) (h0 : -9223372036854775808 ≤ n) (h1 : n ≤ 9223372036854775807) : PFn Tryz.prog 207 [.int .i64 n, .int .i64 10] (.str (Lib.itoa n)) := by
  refine PFn.ofBelow ⟨_, Tryz.func207, rfl, rfl⟩ rfl (fun im w vals him hgl hl => ?_)
  obtain ⟨v, rest, e, hv, v2, rest2, e2, hv2, hr⟩ := hl
  have hv' : v = .int .i64 n := hv
  have hv2' : v2 = .int .i64 10 := hv2
  have hr' : rest2 = [] := hr
  subst hv'; subst e2; subst hv2'; subst hr'
  obtain rfl : vals = #[.int .i64 n, .int .i64 10] := by cases vals; simp_all
  refine (Tryz.strconv_FormatInt_10 n h0 h1 w (tab_is hgl)).mono ?_
  rintro e w' ⟨rfl, k, os, rfl⟩
  exact ⟨⟨_, rfl, rfl⟩, Lib.below_grow _ w (Nat.le_refl _) k os⟩
theorem decDigits_small (u : Nat) : ∀ c ∈ Lib.decDigits u, c.toNat < 128 := by
  rw [Lib.decDigits_eq]
  intro c hc
  obtain ⟨t, _, rfl⟩ := List.mem_map.1 hc
  unfold Lib.dg
  have : u / 10 ^ (Lib.nDigits u - 1 - t) % 10 < 10 := Nat.mod_lt _ (by decide)
  rw [UInt8.toNat_ofNat']
  omega
theorem good_ascii (l : Str) (h : ∀ c ∈ l, c.toNat < 128) : good l = true := by
  unfold good
  rw [Lib.validD_ascii l.length l (fun b hb => h b (List.mem_of_mem_take hb)), List.drop_length]; rfl
theorem good_itoa (n : Int) : good (Lib.itoa n) = true := by
  refine good_ascii _ fun c hc => ?_
  unfold Lib.itoa at hc
  split at hc
  · rcases List.mem_cons.1 hc with rfl | hc
    · decide
    · exact decDigits_small _ c hc
  · exact decDigits_small _ c hc
theorem nDigits_le (u k : Nat) (h : u < 10 ^ (k + 1)) : Lib.nDigits u ≤ k + 1 := by
  induction k generalizing u with
  | zero => rw [Lib.nDigits_small (by simpa using h)]; exact Nat.le_refl _
  | succ k ih =>
    by_cases c : u < 10
    · rw [Lib.nDigits_small c]; omega
    · rw [Lib.nDigits_big c]
      have := ih (u / 10) (by rw [Nat.pow_succ] at h; omega)
      omega
theorem itoa_len (n : Int) (h0 : -9223372036854775808 ≤ n) (h1 : n ≤ 9223372036854775807) : (Lib.itoa n).length ≤ 21 := by
  unfold Lib.itoa
  split
  · rw [List.length_cons, Lib.decDigits_length]
    have := nDigits_le n.natAbs 19 (by omega)
    omega
  · rw [Lib.decDigits_length]
    have := nDigits_le n.toNat 19 (by omega)
    omega
end Go.Proofs.YtegakkonlhmeaaaGreatDoor
set_option linter.unusedVariables false
set_option linter.unusedSimpArgs false
namespace Go.Av
open Go
set_option linter.unusedSectionVars false
section
variable [Globals]
variable {P : Program} {all : Array Oper} {draw : Bool} {K : AX → Slots → St → Prop} {rest : List Oper} {acc : List Tag} {s : Slots} {σ : St} {ty : TypeId} {pos : String} {af : Array Edge}
theorem A.max2 {d : Tmp} {x y : Operand} {tys : Array TypeId} {m n r : Int} (hx : ev? s x = some (.int .i64 m)) (hy : ev? s y = some (.int .i64 n)) (hr : (if n > m then n else m) = r)
    (k : AOps P all draw K rest (.pure :: acc) ((d, .int .i64 r) :: s) σ) : AOps P all draw K (⟨some d, .call ⟨.builtin .max, #[x, y], tys⟩, ty, pos, af, none⟩ :: rest) acc s σ :=
  A.step rfl (tpure fun g w a ho => by
    have h1 : a.eval x = .int .i64 m := op1 hx (by simp [Op.operands, Call.operands]) ho
    have h2 : a.eval y = .int .i64 n := op1 hy (by simp [Op.operands, Call.operands]) ho
    exact ⟨.int .i64 r, by subst hr; simp [execOp, resolve, invoke, builtin, Builtin.max_, Builtin.max2, h1, h2, Result.andThen], rfl⟩) k
theorem A.nilPtr {d : Tmp} {x : Operand} {i off : Nat} (hx : ev? s x = some (.ptr i off)) (k : AOps P all draw K rest (.pure :: acc) ((d, .ptr i off) :: s) σ) : AOps P all draw K (⟨some d, .nilCheck x, ty, pos, af, none⟩ :: rest) acc s σ :=
  A.step rfl (tpure fun g w a ho => by
    obtain ⟨b, hb, e⟩ := op1 hx (by simp [Op.operands]) ho
    exact ⟨_, by simp only [execOp, e]; rfl, ⟨b, hb, rfl⟩⟩) k
/-- A call of a method whose receiver is object 0, which holds a slice of token 0. -/
theorem A.callW {d : Option Tmp} {f : FuncId} {args : Array Operand} {tys : Array TypeId} {x0 : AV} {vals vals0 cs cs' : List AV} {n n' : Nat} {B : List Ob} {T : List Tok} {v : AV}
    (hp : AFn P f (x0 :: vals0) ⟨[.cells cs], [.len n]⟩ (fun e σ1 => e = .ret v ∧ σ1 = ⟨[.cells cs'], [.len n']⟩)) (ha : evsK s args.toList some = some (x0 :: vals)) (hσ : σ = ⟨.cells cs :: B, .len n :: T⟩)
    (hx0 : x0.low 1 1 = true) (hc : AV.closedL vals0 = true) (hcs : AV.lowL 1 1 cs = true) (hcs' : AV.lowL 1 1 cs' = true) (hv : v.low 1 1 = true) (hw : WeakL vals vals0)
    (kk : AOps P all draw K rest (.all :: acc) (putS d v s) ⟨.cells cs' :: B, .len n' :: T⟩) : AOps P all draw K (⟨d, .call ⟨.value (.func f), args, tys⟩, ty, pos, af, none⟩ :: rest) acc s σ := by
  subst hσ
  have hfb : ∀ i, i < 1 → emb (B.length + 1) [0] i = i := fun i hi => by obtain rfl : i = 0 := by omega
                                                                         simp [emb]
  have hft : ∀ i, i < 1 → emb (T.length + 1) [0] i = i := fun i hi => by obtain rfl : i = 0 := by omega
                                                                         simp [emb]
  have hob : ∀ ys : List AV, AV.lowL 1 1 ys = true → Ob.ren (emb (B.length + 1) [0]) (emb (T.length + 1) [0]) (.cells ys) = .cells ys := fun ys h1 => by
    rw [Ob.ren, AV.renL_same hfb hft ys h1]
  refine A.callR (nB := B.length + 1) (nT := T.length + 1) (B0 := [.cells cs]) (T0 := [.len n]) (B1 := [.cells cs']) (T1 := [.len n']) (v0 := v) [0] [0] ha hp rfl rfl ⟨by simp, by simp⟩ ⟨by simp, by simp⟩ rfl rfl (fun j i' ob h ho => ?_) (fun j i' t h ht => ?_) ?_ rfl ?_ ?_ (AV.ren_same hfb hft v hv) (B' := .cells cs' :: B) (T' := .len n' :: T) ?_ ?_ kk
  · cases j with
    | zero =>
      simp at h ho
      subst h; subst ho
      rw [hob _ hcs]
      rfl
    | succ j => simp at h
  · cases j with
    | zero =>
      simp at h ht
      subst h; subst ht
      rfl
    | succ j => simp at h
  · simp only [List.length_cons, List.length_nil, belowB, Ob.low, Bool.and_true]
    exact hcs
  · simp only [List.length_cons, List.length_nil, AV.lowL, AV.lowL_of_closed _ _ _ hc, Bool.and_true]
    exact hx0
  · rw [AV.renL, AV.renL_closed _ _ _ hc, AV.ren_same hfb hft x0 hx0]
    exact WeakL.cons (Weak.refl _) hw
  · simp only [merge, upd, List.map_cons, List.map_nil, hob _ hcs', List.length_cons, List.length_nil, List.drop_succ_cons, List.drop_zero, List.append_nil, List.set_cons_zero]
  · simp only [merge, upd, List.map_cons, List.map_nil, Tok.ren, List.length_cons, List.length_nil, List.drop_succ_cons, List.drop_zero, List.append_nil, List.set_cons_zero]
end
end Go.Av
namespace Go.Proofs.YtegakkonlhmeaaaGreatDoor
open Go Go.Av
set_option maxRecDepth 100000
set_option maxHeartbeats 16000000
attribute [local irreducible] HCode AOps PFn AFn Av.Step TStep

structure Tkn where
  kind : Int
  s : Str
def Tkn.enc (t : Tkn) : AV := .agg [.int .i64 t.kind, .str t.s]
theorem Tkn.closed (t : Tkn) : t.enc.closed = true := rfl
theorem Tkn.closedL (l : List Tkn) : AV.closedL (l.map Tkn.enc) = true := closedL_map Tkn.closed l
@[simp] theorem lowL_Tkn (n m : Nat) (l : List Tkn) : AV.lowL n m (List.map Tkn.enc l) = true := AV.lowL_of_closed n m _ (Tkn.closedL l)
theorem Tkn.fitsAll (l : List Tkn) : Av.fitsAll true 2 (l.map Tkn.enc) = true := fitsAll_map (fun _ => rfl) l
def tP (s : Str) : Tkn := ⟨1, s⟩
def tW (s : Str) : Tkn := ⟨2, s⟩
def boolS (b : Bool) : Str := if b = true then sTrue else sFalse
mutual
def toksV : Val → List Tkn
  | .mk k n s l m => if k = 0 then [tW sNull] else if k = 1 then [tW (boolS (n == 1))] else if k = 2 then [⟨3, Lib.itoa n⟩] else if k = 3 then [⟨numOf s, s⟩] else if k = 4 then [⟨5, s⟩] else if k = 5 then [tW s]
    else if k = 8 then [tP [36], tW s] else if k = 6 then tP [91] :: (toksL l ++ [tP [93]]) else tP [123] :: (toksM m ++ [tP [125]])
def toksL : List Val → List Tkn
  | [] => []
  | v :: l => toksV v ++ toksL l
def toksM : List Mem → List Tkn
  | [] => []
  | .mk name v :: m => tW name :: tP [58] :: (toksV v ++ toksM m)
end
theorem toksV_eq (v : Val) : toksV v = if v.kind = 0 then [tW sNull] else if v.kind = 1 then [tW (boolS (v.n == 1))] else if v.kind = 2 then [⟨3, Lib.itoa v.n⟩] else if v.kind = 3 then [⟨numOf v.s, v.s⟩] else if v.kind = 4 then [⟨5, v.s⟩] else if v.kind = 5 then [tW v.s]
    else if v.kind = 8 then [tP [36], tW v.s] else if v.kind = 6 then tP [91] :: (toksL v.l ++ [tP [93]]) else tP [123] :: (toksM v.m ++ [tP [125]]) := by
  cases v; rw [toksV]; rfl
mutual
theorem toksV_len : ∀ v : Val, (toksV v).length ≤ 2 * v.size
  | .mk k n s l m => by
    have h1 := toksL_len l
    have h2 := toksM_len m
    rw [toksV, Val.size]
    repeat' split
    all_goals simp only [List.length_cons, List.length_append, List.length_nil]; omega
theorem toksL_len : ∀ l : List Val, (toksL l).length ≤ 2 * Val.sizeL l
  | [] => by rw [toksL]; simp
  | v :: l => by
    have h1 := toksV_len v
    have h2 := toksL_len l
    rw [toksL, Val.sizeL, List.length_append]; omega
theorem toksM_len : ∀ m : List Mem, (toksM m).length ≤ 2 * Val.sizeM m
  | [] => by rw [toksM]; simp
  | .mk _ v :: m => by
    have h1 := toksV_len v
    have h2 := toksM_len m
    rw [toksM, Val.sizeM, List.length_cons, List.length_cons, List.length_append]; omega
end
theorem toksL_app : ∀ a b : List Val, toksL (a ++ b) = toksL a ++ toksL b
  | [], b => by rw [toksL]; rfl
  | x :: a, b => by rw [List.cons_append, toksL, toksL, toksL_app a b, List.append_assoc]
theorem toksM_app : ∀ a b : List Mem, toksM (a ++ b) = toksM a ++ toksM b
  | [], b => by rw [toksM]; rfl
  | .mk _ _ :: a, b => by rw [List.cons_append, toksM, toksM, toksM_app a b]; simp
theorem toksL_take {l : List Val} {k : Nat} (h : k < l.length) : toksL (l.take (k + 1)) = toksL (l.take k) ++ toksV l[k] := by
  rw [List.take_succ_eq_append_getElem h, toksL_app, toksL, toksL, List.append_nil]
theorem toksM_take {l : List Mem} {k : Nat} (h : k < l.length) : toksM (l.take (k + 1)) = (toksM (l.take k) ++ [tW l[k].name, tP [58]]) ++ toksV l[k].v := by
  rw [List.take_succ_eq_append_getElem h, toksM_app]
  cases l[k]; rw [toksM, toksM]; simp [Mem.name, Mem.v]

theorem max_int (a b : Nat) : (if (b : Int) > (a : Int) then (b : Int) else (a : Int)) = ((max a b : Nat) : Int) := by
  split <;> omega
theorem vDepth : ∀ N : Nat, N ≤ 68719476736 → ∀ v : Val, v.size ≤ N → PFn Tryz.prog 280 [v.enc] (.int .i64 (depV v))
  | 0, _, v, hv => absurd hv (by have := v.size_pos; omega)
  | N + 1, hN, v, hv => by
    have ih := vDepth N (by omega)
    have hll := v.l_len
    have hml := v.m_len
    have hsp := v.size_parts
    have hd1 := depL_le v.l
    have hd2 := depM_le v.m
    refine AFn.plain rfl (by simp [AV.closedL, Val.closed]) (AFn.enter [2] Tryz.func280 rfl rfl rfl rfl rfl (by decide) ?_)
    rw [depV_eq]
    by_cases k6 : v.kind = 6
    · have q6 : (v.kind == 6) = true := by simp [k6]
      rw [if_pos k6]
      repeat' first
        | refine .br ?_
        | refine .seq ?_ | refine .rg ?_ | refine .rd ?_ | refine .block ?_ | refine .scope ?_ | refine .skip ?_ | refine .label ?_ | refine .exit ?_ | refine .ret ?_
        | refine .ct ?_ | refine .cf ?_ | refine .cy ?_ | refine .cn ?_ | (refine .cond rfl ?_ ?_ <;> intro hc)
        | refine A.nil_seq ?_ | refine .nl ?_ | refine .dd ?_ | refine .ys ?_ | refine .no ?_ | (refine A.guard rfl ?_ ?_ <;> intro hc)
        | refine .lb ?_ | refine .ln ?_ | refine .ls ?_ | refine .pv ?_ | refine .ix ?_ | refine .pt ?_ | refine .pf ?_ | refine .bx ?_ | refine .al ?_ | refine .st ?_ | refine .ad ?_ | refine .sb ?_ | refine .mf ?_ | refine .cl ?_ | refine .cw ?_ | refine .ck ?_ | fail
      refine HCode.forK v.l.length (fun k => [(15, .int .i64 k), (14, .int .i64 v.lv.length), (13, .slice v.lv .no), (3, .int .i64 (depL (v.l.take k) : Nat))])
        (fun k => ⟨[], []⟩) (fun _ => True) ⟨rfl, rfl, rfl, rfl, trivial⟩ rfl trivial fun k hk _ => ?_
      by_cases h1 : k < v.l.length
      · have d1 : decide ((k : Int) < (v.lv.length : Int)) = true := by rw [v.lv_len]; simp [h1]
        have x1 := Val.lv_get h1
        have hc := ih v.l[k] (by have := Val.size_l h1; omega)
        have hm := max_int (depL (v.l.take k)) (depV v.l[k])
        rw [← depL_take h1] at hm
        repeat' first
          | refine .seq ?_ | refine .rg ?_ | refine .rd ?_ | refine .block ?_ | refine .scope ?_ | refine .skip ?_ | refine .label ?_ | refine .exit ?_ | refine .ret ?_
          | refine .ct ?_ | refine .cf ?_ | refine .cy ?_ | refine .cn ?_ | (refine .cond rfl ?_ ?_ <;> intro hc)
          | refine A.nil_seq ?_ | refine .nl ?_ | refine .dd ?_ | refine .ys ?_ | refine .no ?_ | (refine A.guard rfl ?_ ?_ <;> intro hc)
          | refine .lb ?_ | refine .ln ?_ | refine .ls ?_ | refine .pv ?_ | refine .ix ?_ | refine .pt ?_ | refine .pf ?_ | refine .bx ?_ | refine .al ?_ | refine .st ?_ | refine .ad ?_ | refine .sb ?_ | refine .mf ?_ | refine .cl ?_ | refine .cw ?_ | refine .ck ?_
          | refine A.max2 rfl rfl hm ?_ | fail
        exact ⟨h1, ⟨rfl, rfl, rfl, rfl, trivial⟩, by simp [belowS, AV.low], rfl, rfl, trivial⟩
      · have d1 : decide ((k : Int) < (v.lv.length : Int)) = false := by rw [v.lv_len]; simp; omega
        obtain rfl : k = v.l.length := by omega
        rw [List.take_length]
        repeat' first
          | refine .seq ?_ | refine .rg ?_ | refine .rd ?_ | refine .block ?_ | refine .scope ?_ | refine .skip ?_ | refine .label ?_ | refine .exit ?_ | refine .ret ?_
          | refine .ct ?_ | refine .cf ?_ | refine .cy ?_ | refine .cn ?_ | (refine .cond rfl ?_ ?_ <;> intro hc)
          | refine A.nil_seq ?_ | refine .nl ?_ | refine .dd ?_ | refine .ys ?_ | refine .no ?_ | (refine A.guard rfl ?_ ?_ <;> intro hc)
          | refine .lb ?_ | refine .ln ?_ | refine .ls ?_ | refine .pv ?_ | refine .ix ?_ | refine .pt ?_ | refine .pf ?_ | refine .bx ?_ | refine .al ?_ | refine .st ?_ | refine .ad ?_ | refine .sb ?_ | refine .mf ?_ | refine .cl ?_ | refine .cw ?_ | refine .ck ?_ | fail
        exact Fin.ret1 rfl (Weak.eq (congrArg (AV.int .i64) (by omega)))
    · have q6 : (v.kind == 6) = false := by simp [k6]
      rw [if_neg k6]
      by_cases k7 : v.kind = 7
      · have q7 : (v.kind == 7) = true := by simp [k7]
        rw [if_pos k7]
        repeat' first
          | refine .br ?_
          | refine .seq ?_ | refine .rg ?_ | refine .rd ?_ | refine .block ?_ | refine .scope ?_ | refine .skip ?_ | refine .label ?_ | refine .exit ?_ | refine .ret ?_
          | refine .ct ?_ | refine .cf ?_ | refine .cy ?_ | refine .cn ?_ | (refine .cond rfl ?_ ?_ <;> intro hc)
          | refine A.nil_seq ?_ | refine .nl ?_ | refine .dd ?_ | refine .ys ?_ | refine .no ?_ | (refine A.guard rfl ?_ ?_ <;> intro hc)
          | refine .lb ?_ | refine .ln ?_ | refine .ls ?_ | refine .pv ?_ | refine .ix ?_ | refine .pt ?_ | refine .pf ?_ | refine .bx ?_ | refine .al ?_ | refine .st ?_ | refine .ad ?_ | refine .sb ?_ | refine .mf ?_ | refine .cl ?_ | refine .cw ?_ | refine .ck ?_ | fail
        refine HCode.forK v.m.length (fun k => [(29, .int .i64 k), (28, .int .i64 v.mv.length), (27, .slice v.mv .no), (3, .int .i64 (depM (v.m.take k) : Nat))])
          (fun k => ⟨[], []⟩) (fun _ => True) ⟨rfl, rfl, rfl, rfl, trivial⟩ rfl trivial fun k hk _ => ?_
        by_cases h1 : k < v.m.length
        · have d1 : decide ((k : Int) < (v.mv.length : Int)) = true := by rw [v.mv_len]; simp [h1]
          have x1 := Val.mv_get h1
          have hc := ih v.m[k].v (by have := Val.size_m h1; omega)
          have hm := max_int (depM (v.m.take k)) (depV v.m[k].v)
          rw [← depM_take h1] at hm
          repeat' first
            | refine .seq ?_ | refine .rg ?_ | refine .rd ?_ | refine .block ?_ | refine .scope ?_ | refine .skip ?_ | refine .label ?_ | refine .exit ?_ | refine .ret ?_
            | refine .ct ?_ | refine .cf ?_ | refine .cy ?_ | refine .cn ?_ | (refine .cond rfl ?_ ?_ <;> intro hc)
            | refine A.nil_seq ?_ | refine .nl ?_ | refine .dd ?_ | refine .ys ?_ | refine .no ?_ | (refine A.guard rfl ?_ ?_ <;> intro hc)
            | refine .lb ?_ | refine .ln ?_ | refine .ls ?_ | refine .pv ?_ | refine .ix ?_ | refine .pt ?_ | refine .pf ?_ | refine .bx ?_ | refine .al ?_ | refine .st ?_ | refine .ad ?_ | refine .sb ?_ | refine .mf ?_ | refine .cl ?_ | refine .cw ?_ | refine .ck ?_
            | refine A.max2 rfl rfl hm ?_ | fail
          exact ⟨h1, ⟨rfl, rfl, rfl, rfl, trivial⟩, by simp [belowS, AV.low], rfl, rfl, trivial⟩
        · have d1 : decide ((k : Int) < (v.mv.length : Int)) = false := by rw [v.mv_len]; simp; omega
          obtain rfl : k = v.m.length := by omega
          rw [List.take_length]
          repeat' first
            | refine .seq ?_ | refine .rg ?_ | refine .rd ?_ | refine .block ?_ | refine .scope ?_ | refine .skip ?_ | refine .label ?_ | refine .exit ?_ | refine .ret ?_
            | refine .ct ?_ | refine .cf ?_ | refine .cy ?_ | refine .cn ?_ | (refine .cond rfl ?_ ?_ <;> intro hc)
            | refine A.nil_seq ?_ | refine .nl ?_ | refine .dd ?_ | refine .ys ?_ | refine .no ?_ | (refine A.guard rfl ?_ ?_ <;> intro hc)
            | refine .lb ?_ | refine .ln ?_ | refine .ls ?_ | refine .pv ?_ | refine .ix ?_ | refine .pt ?_ | refine .pf ?_ | refine .bx ?_ | refine .al ?_ | refine .st ?_ | refine .ad ?_ | refine .sb ?_ | refine .mf ?_ | refine .cl ?_ | refine .cw ?_ | refine .ck ?_ | fail
          exact Fin.ret1 rfl (Weak.eq (congrArg (AV.int .i64) (by omega)))
      · have q7 : (v.kind == 7) = false := by simp [k7]
        rw [if_neg k7]
        repeat' first
          | refine .br ?_
          | refine .seq ?_ | refine .rg ?_ | refine .rd ?_ | refine .block ?_ | refine .scope ?_ | refine .skip ?_ | refine .label ?_ | refine .exit ?_ | refine .ret ?_
          | refine .ct ?_ | refine .cf ?_ | refine .cy ?_ | refine .cn ?_ | (refine .cond rfl ?_ ?_ <;> intro hc)
          | refine A.nil_seq ?_ | refine .nl ?_ | refine .dd ?_ | refine .ys ?_ | refine .no ?_ | (refine A.guard rfl ?_ ?_ <;> intro hc)
          | refine .lb ?_ | refine .ln ?_ | refine .ls ?_ | refine .pv ?_ | refine .ix ?_ | refine .pt ?_ | refine .pf ?_ | refine .bx ?_ | refine .al ?_ | refine .st ?_ | refine .ad ?_ | refine .sb ?_ | refine .mf ?_ | refine .cl ?_ | refine .cw ?_ | refine .ck ?_ | fail
        exact Fin.ret1 rfl (Weak.refl _)
theorem vPlain (v : Val) (hv : v.size ≤ 68719476736) : PFn Tryz.prog 288 [v.enc] (.bool (plainV v)) := by
  have h := vall 19 nameB (fun s hs => lName s (by omega)) v.size hv v (Nat.le_refl _)
  have h2 := vDepth v.size hv v (Nat.le_refl _)
  refine AFn.plain rfl (by simp [AV.closedL, Val.closed]) (AFn.enter [2] Tryz.func288 rfl rfl rfl rfl rfl (by decide) ?_)
  unfold plainV
  have hd : decide (depV v ≤ 16) = decide ((depV v : Int) ≤ 16) := by simp only [decide_eq_decide]; omega
  rw [hd]
  cases h0 : allV nameB v with
  | true =>
    rw [h0] at h
    repeat' first
      | refine A.box_r rfl rfl ?_
      | refine .seq ?_ | refine .rg ?_ | refine .rd ?_ | refine .block ?_ | refine .scope ?_ | refine .skip ?_ | refine .label ?_ | refine .exit ?_ | refine .ret ?_
      | refine .ct ?_ | refine .cf ?_ | refine .cy ?_ | refine .cn ?_ | (refine .cond rfl ?_ ?_ <;> intro hc)
      | refine A.nil_seq ?_ | refine .nl ?_ | refine .dd ?_ | refine .ys ?_ | refine .no ?_ | (refine A.guard rfl ?_ ?_ <;> intro hc)
      | refine .lb ?_ | refine .ln ?_ | refine .ls ?_ | refine .pv ?_ | refine .ix ?_ | refine .pt ?_ | refine .pf ?_ | refine .bx ?_ | refine .al ?_ | refine .st ?_ | refine .ad ?_ | refine .sb ?_ | refine .mf ?_ | refine .cl ?_ | refine .cw ?_ | refine .ck ?_
      | refine A.call rfl h (WeakL.refl _) ?_ | refine A.call rfl h2 (WeakL.refl _) ?_ | refine A.leq rfl rfl ?_ | fail
    exact Fin.ret1 rfl (Weak.refl _)
  | false =>
    rw [h0] at h
    repeat' first
      | refine A.box_r rfl rfl ?_
      | refine .seq ?_ | refine .rg ?_ | refine .rd ?_ | refine .block ?_ | refine .scope ?_ | refine .skip ?_ | refine .label ?_ | refine .exit ?_ | refine .ret ?_
      | refine .ct ?_ | refine .cf ?_ | refine .cy ?_ | refine .cn ?_ | (refine .cond rfl ?_ ?_ <;> intro hc)
      | refine A.nil_seq ?_ | refine .nl ?_ | refine .dd ?_ | refine .ys ?_ | refine .no ?_ | (refine A.guard rfl ?_ ?_ <;> intro hc)
      | refine .lb ?_ | refine .ln ?_ | refine .ls ?_ | refine .pv ?_ | refine .ix ?_ | refine .pt ?_ | refine .pf ?_ | refine .bx ?_ | refine .al ?_ | refine .st ?_ | refine .ad ?_ | refine .sb ?_ | refine .mf ?_ | refine .cl ?_ | refine .cw ?_ | refine .ck ?_
      | refine A.call rfl h (WeakL.refl _) ?_ | fail
    exact Fin.ret1 rfl (Weak.refl _)
theorem fmtBool0 (b : Bool) : PFn Tryz.prog 294 [.bool b] (.str (boolS b)) := by
  refine AFn.plain rfl rfl (AFn.enter [2] Tryz.func294 rfl rfl rfl rfl rfl (by decide) ?_)
  cases b with
  | true =>
    repeat' first
      | refine .seq ?_ | refine .rg ?_ | refine .rd ?_ | refine .block ?_ | refine .scope ?_ | refine .skip ?_ | refine .label ?_ | refine .exit ?_ | refine .ret ?_
      | refine .ct ?_ | refine .cf ?_ | refine .cy ?_ | refine .cn ?_ | (refine .cond rfl ?_ ?_ <;> intro hc)
      | refine A.nil_seq ?_ | refine .nl ?_ | refine .dd ?_ | refine .ys ?_ | refine .no ?_ | (refine A.guard rfl ?_ ?_ <;> intro hc)
      | refine .lb ?_ | refine .ln ?_ | refine .ls ?_ | refine .pv ?_ | refine .ix ?_ | refine .pt ?_ | refine .pf ?_ | refine .bx ?_ | refine .al ?_ | refine .st ?_ | refine .ad ?_ | refine .sb ?_ | refine .mf ?_ | refine .cl ?_ | refine .cw ?_ | refine .ck ?_ | fail
    exact Fin.ret1 rfl (Weak.refl _)
  | false =>
    repeat' first
      | refine .seq ?_ | refine .rg ?_ | refine .rd ?_ | refine .block ?_ | refine .scope ?_ | refine .skip ?_ | refine .label ?_ | refine .exit ?_ | refine .ret ?_
      | refine .ct ?_ | refine .cf ?_ | refine .cy ?_ | refine .cn ?_ | (refine .cond rfl ?_ ?_ <;> intro hc)
      | refine A.nil_seq ?_ | refine .nl ?_ | refine .dd ?_ | refine .ys ?_ | refine .no ?_ | (refine A.guard rfl ?_ ?_ <;> intro hc)
      | refine .lb ?_ | refine .ln ?_ | refine .ls ?_ | refine .pv ?_ | refine .ix ?_ | refine .pt ?_ | refine .pf ?_ | refine .bx ?_ | refine .al ?_ | refine .st ?_ | refine .ad ?_ | refine .sb ?_ | refine .mf ?_ | refine .cl ?_ | refine .cw ?_ | refine .ck ?_ | fail
    exact Fin.ret1 rfl (Weak.refl _)
theorem fmtBool (b : Bool) : PFn Tryz.prog 292 [.bool b] (.str (boolS b)) := by
  have h := fmtBool0 b
  refine AFn.plain rfl rfl (AFn.enter [2] Tryz.func292 rfl rfl rfl rfl rfl (by decide) ?_)
  repeat' first
    | refine .seq ?_ | refine .rg ?_ | refine .rd ?_ | refine .block ?_ | refine .scope ?_ | refine .skip ?_ | refine .label ?_ | refine .exit ?_ | refine .ret ?_
    | refine .ct ?_ | refine .cf ?_ | refine .cy ?_ | refine .cn ?_ | (refine .cond rfl ?_ ?_ <;> intro hc)
    | refine A.nil_seq ?_ | refine .nl ?_ | refine .dd ?_ | refine .ys ?_ | refine .no ?_ | (refine A.guard rfl ?_ ?_ <;> intro hc)
    | refine .lb ?_ | refine .ln ?_ | refine .ls ?_ | refine .pv ?_ | refine .ix ?_ | refine .pt ?_ | refine .pf ?_ | refine .bx ?_ | refine .al ?_ | refine .st ?_ | refine .ad ?_ | refine .sb ?_ | refine .mf ?_ | refine .cl ?_ | refine .cw ?_ | refine .ck ?_ | fail
  exact Fin.ret1 rfl (Weak.refl _)
theorem v_word (s : Str) : PFn Tryz.prog 291 [.str s] (tW s).enc := by
  refine AFn.plain rfl rfl (AFn.enterR [.cell 2 192] Tryz.func291 rfl rfl rfl rfl rfl ?_)
  repeat' first
    | refine .seq ?_ | refine .rg ?_ | refine .rd ?_ | refine .block ?_ | refine .scope ?_ | refine .skip ?_ | refine .label ?_ | refine .exit ?_ | refine .ret ?_
    | refine .ct ?_ | refine .cf ?_ | refine .cy ?_ | refine .cn ?_ | (refine .cond rfl ?_ ?_ <;> intro hc)
    | refine A.nil_seq ?_ | refine .nl ?_ | refine .dd ?_ | refine .ys ?_ | refine .no ?_ | (refine A.guard rfl ?_ ?_ <;> intro hc)
    | refine .lb ?_ | refine .ln ?_ | refine .ls ?_ | refine .pv ?_ | refine .ix ?_ | refine .pt ?_ | refine .pf ?_ | refine .bx ?_ | refine .al ?_ | refine .st ?_ | refine .ad ?_ | refine .sb ?_ | refine .mf ?_ | refine .cl ?_ | refine .cw ?_ | refine .ck ?_ | fail
  exact FinR.ret1 rfl (Weak.refl _)
theorem v_punct (s : Str) : PFn Tryz.prog 293 [.str s] (tP s).enc := by
  refine AFn.plain rfl rfl (AFn.enterR [.cell 2 192] Tryz.func293 rfl rfl rfl rfl rfl ?_)
  repeat' first
    | refine .seq ?_ | refine .rg ?_ | refine .rd ?_ | refine .block ?_ | refine .scope ?_ | refine .skip ?_ | refine .label ?_ | refine .exit ?_ | refine .ret ?_
    | refine .ct ?_ | refine .cf ?_ | refine .cy ?_ | refine .cn ?_ | (refine .cond rfl ?_ ?_ <;> intro hc)
    | refine A.nil_seq ?_ | refine .nl ?_ | refine .dd ?_ | refine .ys ?_ | refine .no ?_ | (refine A.guard rfl ?_ ?_ <;> intro hc)
    | refine .lb ?_ | refine .ln ?_ | refine .ls ?_ | refine .pv ?_ | refine .ix ?_ | refine .pt ?_ | refine .pf ?_ | refine .bx ?_ | refine .al ?_ | refine .st ?_ | refine .ad ?_ | refine .sb ?_ | refine .mf ?_ | refine .cl ?_ | refine .cw ?_ | refine .ck ?_ | fail
  exact FinR.ret1 rfl (Weak.refl _)
end Go.Proofs.YtegakkonlhmeaaaGreatDoor
