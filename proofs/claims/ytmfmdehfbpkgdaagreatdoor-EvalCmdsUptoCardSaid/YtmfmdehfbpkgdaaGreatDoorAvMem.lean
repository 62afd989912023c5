/-
  The rules of single operations.
-/
import Derived.Test.YtmfmdehfbpkgdaaGreatDoorAvCode
set_option linter.unusedVariables false
namespace Go.Av
open Go
set_option linter.unusedSectionVars false
variable [Globals]
inductive TKind where
  | bool | int (k : IntKind) | string | slice | struct | array (n : Nat) | pointer | map | iface | func | other
  deriving DecidableEq
structure TI where
  kind : TKind
  size : Nat
  bytes : Nat
  agg : Bool
  zero : AV
  fields : List (Nat × Nat × Bool)
  elem : Nat
def kindOf : TypeDesc → TKind
  | .bool => .bool
  | .int k => .int k
  | .string => .string
  | .slice _ => .slice
  | .struct _ => .struct
  | .array n _ => .array n
  | .pointer _ => .pointer
  | .map _ _ => .map
  | .interface _ => .iface
  | .func _ _ _ => .func
  | _ => .other
def elemOf' : TypeDesc → Nat
  | .slice e => e
  | .array _ e => e
  | .pointer e => e
  | .map _ e => e
  | _ => 0
def isAgg' : TypeDesc → Bool
  | .struct _ | .array _ _ => true
  | _ => false
def fieldsOf (P : Program) : TypeDesc → List (Nat × Nat × Bool)
  | .struct fs => fs.toList.map fun f => (f.offset, P.cellsOf f.type, ((P.underlying f.type).map isAgg').getD false)
  | _ => []
structure TOk (P : Program) (t : TypeId) (i : TI) : Prop where
  ex : ∃ info d z, P.info? t = some info ∧ P.underlying t = some d ∧ kindOf d = i.kind ∧ elemOf' d = i.elem ∧ isAgg' d = i.agg ∧ info.size = i.size ∧ info.bytes = i.bytes ∧
    info.zero = some z ∧ ofConst z = i.zero ∧ z.cells.size = i.size ∧ fieldsOf P d = i.fields ∧ (z.cells.toList.all fun v => v.oneCell') = true ∧
    (∀ fs, d = .struct fs → ∀ f ∈ fs.toList, (P.info? f.type).isSome = true ∧ (P.underlying f.type).isSome = true)
def LayOk (P : Program) : List (Nat × TI) → Prop
  | [] => True
  | (t, i) :: l => TOk P t i ∧ LayOk P l
def tget : List (Nat × TI) → Nat → Option TI
  | [], _ => none
  | (t, i) :: l, u => bif Nat.beq t u then some i else tget l u
class Lay (P : Program) where
  L : List (Nat × TI)
  ok : LayOk P L
  mix : P.follows .mixedOrders = true
theorem LayOk.get {P : Program} : ∀ {L : List (Nat × TI)}, LayOk P L → ∀ {t : Nat} {i : TI}, tget L t = some i → TOk P t i
  | [], _, _, _, h => by cases h
  | (t', i') :: l, ⟨h1, h2⟩, t, i, h => by
    unfold tget at h
    cases e : Nat.beq t' t with
    | true =>
      rw [e] at h
      have := Nat.eq_of_beq_eq_true e
      subst this
      cases h
      exact h1
    | false => rw [e] at h; exact h2.get h
def ty? (P : Program) [Lay P] (t : Nat) : Option TI := tget (Lay.L P) t
theorem ty_ok {P : Program} [Lay P] {t : Nat} {i : TI} (h : ty? P t = some i) : TOk P t i := LayOk.get Lay.ok h
def lk? : Slots → Nat → Option AV
  | [], _ => none
  | (t, v) :: s, u => bif Nat.beq t u then some v else lk? s u
def const? : Value → Option AV
  | .bool b => some (.bool b)
  | .int k n => some (.int k n)
  | .string ⟨⟨l⟩⟩ => some (.str l)
  | .pointer none => some .nilp
  | .slice none 0 0 => some (.slice [] .nil)
  | .map none => some .nilmap
  | .nilFunc => some .nilfn
  | .nilIface => some .nili
  | .agg cs => bif cs.toList.all (·.oneCell') then some (.agg (cs.toList.map ofCell)) else none
  | _ => none
def ev? (s : Slots) : Operand → Option AV
  | .tmp t => lk? s t
  | .const v => const? v
  | .global g => gget Globals.table g
  | .func f => some (.fn (.func f) [] [])
theorem lk_of : ∀ {s : Slots} {t : Nat} {v : AV}, lk? s t = some v → lk s t = v
  | [], _, _, h => by cases h
  | (t', v') :: s, t, v, h => by
    unfold lk? at h
    unfold lk
    cases e : Nat.beq t' t with
    | true => rw [e] at h; cases h; rfl
    | false => rw [e] at h; exact lk_of h
theorem const_of {v : Value} {x : AV} (h : const? v = some x) : ofConst v = x := by
  cases v with
  | bool b => cases h; rfl
  | int k n => cases h; rfl
  | string s => obtain ⟨⟨l⟩⟩ := s; cases h; rfl
  | pointer a => cases a <;> cases h; rfl
  | slice a l c =>
    cases a with
    | some a => cases h
    | none =>
      cases l with
      | succ l => cases h
      | zero =>
        cases c with
        | succ c => cases h
        | zero => cases h; rfl
  | map r => cases r <;> cases h; rfl
  | nilFunc => cases h; rfl
  | nilIface => cases h; rfl
  | agg cs =>
    show (bif cs.toList.all (·.oneCell') then AV.agg (cs.toList.map ofCell) else .undef) = x
    have h' : (bif cs.toList.all (·.oneCell') then some (AV.agg (cs.toList.map ofCell)) else none) = some x := h
    cases e : cs.toList.all (·.oneCell') with
    | true => rw [e] at h'; cases h'; rfl
    | false => rw [e] at h'; cases h'
  | _ => cases h
theorem ev_of {s : Slots} {x : Operand} {v : AV} (h : ev? s x = some v) : ev s x = v := by
  cases x with
  | tmp t => exact lk_of h
  | const c => exact const_of h
  | global g =>
    show (gget Globals.table g).getD .undef = v
    rw [show gget Globals.table g = some v from h]
    rfl
  | func f => cases h; rfl
section
variable {P : Program} {s : Slots} {σ : St}
theorem tpure {o : Oper} {v : AV} (h : ∀ (g : Gh) (w : World) (a : Act), (∀ x, x ∈ o.op.operands.toList → Rep g w (ev s x) (a.eval x)) → ∃ u, (execOp a.eval o).run P w = .ok (.value u) w ∧ Rep g w v u) :
    TStep .pure P o s σ σ v := by
  refine ⟨rfl, fun τ => ?_⟩
  intro g w a next Q hi ho hn
  obtain ⟨u, h1, h2⟩ := h g w a ho
  unfold Oper.wp
  rw [h1]
  exact hn u w g (Ext.refl g w) hi h2
end
section rules
variable {P : Program} {all : Array Oper} {draw : Bool} {K : AX → Slots → St → Prop} {rest : List Oper} {acc : List Tag} {s : Slots} {σ : St}
variable {d : Tmp} {ty : TypeId} {pos : String} {af : Array Edge}
theorem A.nil (h : draw = true → okOrder all acc.reverse = true) (k : K .normal s σ) : AOps P all draw K [] acc s σ := ⟨h, k⟩
theorem A.nil_seq (k : K .normal s σ) : AOps P all false K [] acc s σ := ⟨(fun h => by cases h), k⟩
theorem A.step {o : Oper} {t : Tag} {v : AV} {σ' : St} (hg : o.guard = none) (hst : TStep t P o s σ σ' v) (k : AOps P all draw K rest (t :: acc) (putS o.dst v s) σ') : AOps P all draw K (o :: rest) acc s σ :=
  .inl ⟨by unfold Wanted; rw [hg], t, v, σ', hst, k⟩
def yv (all : Array Oper) (s : Slots) (j : Nat) : Option AV := ((all[j]?).bind (·.dst)).bind (lk? s)
theorem yv_spec {j : Nat} {b : Bool} (h : yv all s j = some (.bool b)) : ∃ d, (all[j]?).bind (·.dst) = some d ∧ lk s d = .bool b := by
  unfold yv at h
  cases e : (all[j]?).bind (·.dst) with
  | none => rw [e] at h; cases h
  | some d => rw [e] at h; exact ⟨d, rfl, lk_of h⟩
theorem A.yes {dst : Option Tmp} {op : Op} {j : Nat} {want b : Bool} (h : yv all s j = some (.bool b)) (hb : b = want) (k : AOps P all draw K (⟨dst, op, ty, pos, af, none⟩ :: rest) acc s σ) :
    AOps P all draw K (⟨dst, op, ty, pos, af, some (j, want)⟩ :: rest) acc s σ := by
  obtain ⟨d, h1, h2⟩ := yv_spec h
  have hw : Wanted all s ⟨dst, op, ty, pos, af, some (j, want)⟩ true := ⟨d, h1, .inl ⟨b, h2, by subst hb; simp⟩⟩
  rcases k with ⟨_, t, v, σ', hst, hr⟩ | ⟨hf, _⟩ | ⟨hd, _, x, σ', hst, hr⟩
  · exact .inl ⟨hw, t, v, σ', hst, hr⟩
  · cases (show false = true from hf)
  · exact .inr (.inr ⟨hd, hw, x, σ', hst, hr⟩)
theorem A.no {dst : Option Tmp} {op : Op} {j : Nat} {want b : Bool} (h : yv all s j = some (.bool b)) (hb : b = !want) (k : AOps P all draw K rest (.pure :: acc) (putS dst (.tup []) s) σ) :
    AOps P all draw K (⟨dst, op, ty, pos, af, some (j, want)⟩ :: rest) acc s σ := by
  obtain ⟨d, h1, h2⟩ := yv_spec h
  exact .inr (.inl ⟨⟨d, h1, .inl ⟨b, h2, by subst hb; cases want <;> rfl⟩⟩, k⟩)
theorem A.dead {dst : Option Tmp} {op : Op} {j : Nat} {want : Bool} (h : yv all s j = some (.tup [])) (k : AOps P all draw K rest (.pure :: acc) (putS dst (.tup []) s) σ) :
    AOps P all draw K (⟨dst, op, ty, pos, af, some (j, want)⟩ :: rest) acc s σ := by
  unfold yv at h
  cases e : (all[j]?).bind (·.dst) with
  | none => rw [e] at h; cases h
  | some d => rw [e] at h; exact .inr (.inl ⟨⟨d, e, .inr ⟨lk_of h, rfl⟩⟩, k⟩)
theorem A.guard {dst : Option Tmp} {op : Op} {j : Nat} {want b : Bool} (h : yv all s j = some (.bool b)) (k1 : b = want → AOps P all draw K (⟨dst, op, ty, pos, af, none⟩ :: rest) acc s σ)
    (k0 : b = (!want) → AOps P all draw K rest (.pure :: acc) (putS dst (.tup []) s) σ) : AOps P all draw K (⟨dst, op, ty, pos, af, some (j, want)⟩ :: rest) acc s σ := by
  by_cases e : b = want
  · exact A.yes h e (k1 e)
  · have e' : b = !want := by cases b <;> cases want <;> simp_all
    exact A.no h e' (k0 e')
theorem A.move {x : Operand} {v : AV} (h : ev? s x = some v) (k : AOps P all draw K rest (.pure :: acc) ((d, v) :: s) σ) : AOps P all draw K (⟨some d, .move x, ty, pos, af, none⟩ :: rest) acc s σ :=
  A.step rfl (tpure fun g w a ho => ⟨a.eval x, rfl, by rw [← ev_of h]; exact ho x (by simp [Op.operands])⟩) k
theorem A.assign {x : Operand} {v : AV} (h : ev? s x = some v) (k : AOps P all draw K rest (.pure :: acc) ((d, v) :: s) σ) : AOps P all draw K (⟨some d, .assign x, ty, pos, af, none⟩ :: rest) acc s σ :=
  A.step rfl (tpure fun g w a ho => ⟨a.eval x, rfl, by rw [← ev_of h]; exact ho x (by simp [Op.operands])⟩) k
theorem A.pick_true {c x y : Operand} {b : Bool} {v : AV} (hc : ev? s c = some (.bool b)) (hb : b = true) (h : ev? s x = some v) (k : AOps P all draw K rest (.pure :: acc) ((d, v) :: s) σ) :
    AOps P all draw K (⟨some d, .pick c x y, ty, pos, af, none⟩ :: rest) acc s σ :=
  A.step rfl (tpure fun g w a ho => by
    have h1 := ho c (by simp [Op.operands])
    rw [ev_of hc, hb] at h1
    have h1' : a.eval c = .bool true := h1
    refine ⟨a.eval x, ?_, by rw [← ev_of h]; exact ho x (by simp [Op.operands])⟩
    simp [execOp, h1', asBool]) k
theorem A.pick_false {c x y : Operand} {b : Bool} {v : AV} (hc : ev? s c = some (.bool b)) (hb : b = false) (h : ev? s y = some v) (k : AOps P all draw K rest (.pure :: acc) ((d, v) :: s) σ) :
    AOps P all draw K (⟨some d, .pick c x y, ty, pos, af, none⟩ :: rest) acc s σ :=
  A.step rfl (tpure fun g w a ho => by
    have h1 := ho c (by simp [Op.operands])
    rw [ev_of hc, hb] at h1
    have h1' : a.eval c = .bool false := h1
    refine ⟨a.eval y, ?_, by rw [← ev_of h]; exact ho y (by simp [Op.operands])⟩
    simp [execOp, h1', asBool]) k
theorem A.not {x : Operand} {T : TypeId} {b : Bool} (h : ev? s x = some (.bool b)) (k : AOps P all draw K rest (.pure :: acc) ((d, .bool (!b)) :: s) σ) : AOps P all draw K (⟨some d, .unOp .not T x, ty, pos, af, none⟩ :: rest) acc s σ :=
  A.step rfl (tpure fun g w a ho => by
    have h1 := ho x (by simp [Op.operands])
    rw [ev_of h] at h1
    have h1' : a.eval x = .bool b := h1
    refine ⟨.bool (!b), ?_, rfl⟩
    simp [execOp, h1', Op.unary]) k
theorem two_ops {op : BinOp} {x y : Operand} {T U : TypeId} {vx vy r : AV} (hx : ev? s x = some vx) (hy : ev? s y = some vy)
    (hr : ∀ (g : Gh) (w : World) (a b : Value), Rep g w vx a → Rep g w vy b → ∃ u, (do eqGuard op T x y a b; Go.binOp op T a b : Sem Value).run P w = .ok u w ∧ Rep g w r u)
    (k : AOps P all draw K rest (.pure :: acc) ((d, r) :: s) σ) : AOps P all draw K (⟨some d, .binOp op T x y U, ty, pos, af, none⟩ :: rest) acc s σ :=
  A.step rfl (tpure fun g w a ho => by
    have h1 := ho x (by simp [Op.operands])
    have h2 := ho y (by simp [Op.operands])
    rw [ev_of hx] at h1
    rw [ev_of hy] at h2
    obtain ⟨u, hu, hrep⟩ := hr g w _ _ h1 h2
    refine ⟨u, ?_, hrep⟩
    simp only [execOp, Sem.run_bind] at hu ⊢
    rw [hu]
    rfl) k
theorem A.add {x y : Operand} {T U : TypeId} {k : IntKind} {m n : Int} (hx : ev? s x = some (.int k m)) (hy : ev? s y = some (.int k n)) (k' : AOps P all draw K rest (.pure :: acc) ((d, .int k (k.wrap (m + n))) :: s) σ) :
    AOps P all draw K (⟨some d, .binOp .add T x y U, ty, pos, af, none⟩ :: rest) acc s σ :=
  two_ops hx hy (fun g w a b ha hb => by
    cases (show a = _ from ha); cases (show b = _ from hb)
    exact ⟨.int k (k.wrap (m + n)), by simp [eqGuard, Go.binOp, Op.intArith], rfl⟩) k'
theorem A.sub {x y : Operand} {T U : TypeId} {k : IntKind} {m n : Int} (hx : ev? s x = some (.int k m)) (hy : ev? s y = some (.int k n)) (k' : AOps P all draw K rest (.pure :: acc) ((d, .int k (k.wrap (m - n))) :: s) σ) :
    AOps P all draw K (⟨some d, .binOp .sub T x y U, ty, pos, af, none⟩ :: rest) acc s σ :=
  two_ops hx hy (fun g w a b ha hb => by
    cases (show a = _ from ha); cases (show b = _ from hb)
    exact ⟨.int k (k.wrap (m - n)), by simp [eqGuard, Go.binOp, Op.intArith], rfl⟩) k'
theorem A.mul {x y : Operand} {T U : TypeId} {k : IntKind} {m n : Int} (hx : ev? s x = some (.int k m)) (hy : ev? s y = some (.int k n)) (k' : AOps P all draw K rest (.pure :: acc) ((d, .int k (k.wrap (m * n))) :: s) σ) :
    AOps P all draw K (⟨some d, .binOp .mul T x y U, ty, pos, af, none⟩ :: rest) acc s σ :=
  two_ops hx hy (fun g w a b ha hb => by
    cases (show a = _ from ha); cases (show b = _ from hb)
    exact ⟨.int k (k.wrap (m * n)), by simp [eqGuard, Go.binOp, Op.intArith], rfl⟩) k'
theorem A.add64 {x y : Operand} {T U : TypeId} {m n r : Int} (hx : ev? s x = some (.int .i64 m)) (hy : ev? s y = some (.int .i64 n)) (hr : m + n = r) (hb : -9223372036854775808 ≤ r ∧ r ≤ 9223372036854775807)
    (k' : AOps P all draw K rest (.pure :: acc) ((d, .int .i64 r) :: s) σ) : AOps P all draw K (⟨some d, .binOp .add T x y U, ty, pos, af, none⟩ :: rest) acc s σ :=
  A.add hx hy (by rw [hr, IntWalk.i64_in r hb]; exact k')
theorem A.sub64 {x y : Operand} {T U : TypeId} {m n r : Int} (hx : ev? s x = some (.int .i64 m)) (hy : ev? s y = some (.int .i64 n)) (hr : m - n = r) (hb : -9223372036854775808 ≤ r ∧ r ≤ 9223372036854775807)
    (k' : AOps P all draw K rest (.pure :: acc) ((d, .int .i64 r) :: s) σ) : AOps P all draw K (⟨some d, .binOp .sub T x y U, ty, pos, af, none⟩ :: rest) acc s σ :=
  A.sub hx hy (by rw [hr, IntWalk.i64_in r hb]; exact k')
theorem A.lss {x y : Operand} {T U : TypeId} {k : IntKind} {m n : Int} (hx : ev? s x = some (.int k m)) (hy : ev? s y = some (.int k n)) (k' : AOps P all draw K rest (.pure :: acc) ((d, .bool (decide (m < n))) :: s) σ) :
    AOps P all draw K (⟨some d, .binOp .lss T x y U, ty, pos, af, none⟩ :: rest) acc s σ :=
  two_ops hx hy (fun g w a b ha hb => by
    cases (show a = _ from ha); cases (show b = _ from hb)
    exact ⟨.bool (decide (m < n)), by simp [eqGuard, Go.binOp, Op.intCmp], rfl⟩) k'
theorem A.leq {x y : Operand} {T U : TypeId} {k : IntKind} {m n : Int} (hx : ev? s x = some (.int k m)) (hy : ev? s y = some (.int k n)) (k' : AOps P all draw K rest (.pure :: acc) ((d, .bool (decide (m ≤ n))) :: s) σ) :
    AOps P all draw K (⟨some d, .binOp .leq T x y U, ty, pos, af, none⟩ :: rest) acc s σ :=
  two_ops hx hy (fun g w a b ha hb => by
    cases (show a = _ from ha); cases (show b = _ from hb)
    exact ⟨.bool (decide (m ≤ n)), by simp [eqGuard, Go.binOp, Op.intCmp], rfl⟩) k'
theorem A.gtr {x y : Operand} {T U : TypeId} {k : IntKind} {m n : Int} (hx : ev? s x = some (.int k m)) (hy : ev? s y = some (.int k n)) (k' : AOps P all draw K rest (.pure :: acc) ((d, .bool (decide (n < m))) :: s) σ) :
    AOps P all draw K (⟨some d, .binOp .gtr T x y U, ty, pos, af, none⟩ :: rest) acc s σ :=
  two_ops hx hy (fun g w a b ha hb => by
    cases (show a = _ from ha); cases (show b = _ from hb)
    exact ⟨.bool (decide (n < m)), by simp [eqGuard, Go.binOp, Op.intCmp], rfl⟩) k'
theorem A.geq {x y : Operand} {T U : TypeId} {k : IntKind} {m n : Int} (hx : ev? s x = some (.int k m)) (hy : ev? s y = some (.int k n)) (k' : AOps P all draw K rest (.pure :: acc) ((d, .bool (decide (n ≤ m))) :: s) σ) :
    AOps P all draw K (⟨some d, .binOp .geq T x y U, ty, pos, af, none⟩ :: rest) acc s σ :=
  two_ops hx hy (fun g w a b ha hb => by
    cases (show a = _ from ha); cases (show b = _ from hb)
    exact ⟨.bool (decide (n ≤ m)), by simp [eqGuard, Go.binOp, Op.intCmp], rfl⟩) k'
theorem A.eqi {x y : Operand} {T U : TypeId} {k : IntKind} {m n : Int} (hx : ev? s x = some (.int k m)) (hy : ev? s y = some (.int k n)) (k' : AOps P all draw K rest (.pure :: acc) ((d, .bool (m == n)) :: s) σ) :
    AOps P all draw K (⟨some d, .binOp .eql T x y U, ty, pos, af, none⟩ :: rest) acc s σ :=
  two_ops hx hy (fun g w a b ha hb => by
    cases (show a = _ from ha); cases (show b = _ from hb)
    exact ⟨.bool (m == n), by simp [eqGuard, Go.binOp, Op.intCmp], rfl⟩) k'
theorem A.nei {x y : Operand} {T U : TypeId} {k : IntKind} {m n : Int} (hx : ev? s x = some (.int k m)) (hy : ev? s y = some (.int k n)) (k' : AOps P all draw K rest (.pure :: acc) ((d, .bool (m != n)) :: s) σ) :
    AOps P all draw K (⟨some d, .binOp .neq T x y U, ty, pos, af, none⟩ :: rest) acc s σ :=
  two_ops hx hy (fun g w a b ha hb => by
    cases (show a = _ from ha); cases (show b = _ from hb)
    exact ⟨.bool (m != n), by simp [eqGuard, Go.binOp, Op.intCmp], rfl⟩) k'
def strLt : List UInt8 → List UInt8 → Bool
  | _, [] => false
  | [], _ :: _ => true
  | a :: x, b :: y => a < b || (a == b && strLt x y)
theorem strLt_eq : ∀ a b, Op.bytesLess a b = strLt a b
  | a, [] => by cases a <;> rfl
  | [], _ :: _ => rfl
  | a :: x, b :: y => by rw [Op.bytesLess, strLt, strLt_eq x y]
theorem A.eqs {x y : Operand} {T U : TypeId} {m n : List UInt8} (hx : ev? s x = some (.str m)) (hy : ev? s y = some (.str n)) (k' : AOps P all draw K rest (.pure :: acc) ((d, .bool (m == n)) :: s) σ) :
    AOps P all draw K (⟨some d, .binOp .eql T x y U, ty, pos, af, none⟩ :: rest) acc s σ :=
  two_ops hx hy (fun g w a b ha hb => by
    cases (show a = _ from ha); cases (show b = _ from hb)
    exact ⟨.bool (m == n), by simp [eqGuard, Go.binOp, Op.stringOp], rfl⟩) k'
theorem A.nes {x y : Operand} {T U : TypeId} {m n : List UInt8} (hx : ev? s x = some (.str m)) (hy : ev? s y = some (.str n)) (k' : AOps P all draw K rest (.pure :: acc) ((d, .bool (m != n)) :: s) σ) :
    AOps P all draw K (⟨some d, .binOp .neq T x y U, ty, pos, af, none⟩ :: rest) acc s σ :=
  two_ops hx hy (fun g w a b ha hb => by
    cases (show a = _ from ha); cases (show b = _ from hb)
    exact ⟨.bool (m != n), by simp [eqGuard, Go.binOp, Op.stringOp, bne], rfl⟩) k'
theorem A.lts {x y : Operand} {T U : TypeId} {m n : List UInt8} (hx : ev? s x = some (.str m)) (hy : ev? s y = some (.str n)) (k' : AOps P all draw K rest (.pure :: acc) ((d, .bool (strLt m n)) :: s) σ) :
    AOps P all draw K (⟨some d, .binOp .lss T x y U, ty, pos, af, none⟩ :: rest) acc s σ :=
  two_ops hx hy (fun g w a b ha hb => by
    cases (show a = _ from ha); cases (show b = _ from hb)
    exact ⟨.bool (strLt m n), by simp [eqGuard, Go.binOp, Op.stringOp, strLt_eq], rfl⟩) k'
theorem A.gts {x y : Operand} {T U : TypeId} {m n : List UInt8} (hx : ev? s x = some (.str m)) (hy : ev? s y = some (.str n)) (k' : AOps P all draw K rest (.pure :: acc) ((d, .bool (!(strLt m n || m == n))) :: s) σ) :
    AOps P all draw K (⟨some d, .binOp .gtr T x y U, ty, pos, af, none⟩ :: rest) acc s σ :=
  two_ops hx hy (fun g w a b ha hb => by
    cases (show a = _ from ha); cases (show b = _ from hb)
    exact ⟨.bool (!(strLt m n || m == n)), by simp [eqGuard, Go.binOp, Op.stringOp, strLt_eq], rfl⟩) k'
theorem A.les {x y : Operand} {T U : TypeId} {m n : List UInt8} (hx : ev? s x = some (.str m)) (hy : ev? s y = some (.str n)) (k' : AOps P all draw K rest (.pure :: acc) ((d, .bool (strLt m n || m == n)) :: s) σ) :
    AOps P all draw K (⟨some d, .binOp .leq T x y U, ty, pos, af, none⟩ :: rest) acc s σ :=
  two_ops hx hy (fun g w a b ha hb => by
    cases (show a = _ from ha); cases (show b = _ from hb)
    exact ⟨.bool (strLt m n || m == n), by simp [eqGuard, Go.binOp, Op.stringOp, strLt_eq], rfl⟩) k'
theorem A.ges {x y : Operand} {T U : TypeId} {m n : List UInt8} (hx : ev? s x = some (.str m)) (hy : ev? s y = some (.str n)) (k' : AOps P all draw K rest (.pure :: acc) ((d, .bool (!strLt m n)) :: s) σ) :
    AOps P all draw K (⟨some d, .binOp .geq T x y U, ty, pos, af, none⟩ :: rest) acc s σ :=
  two_ops hx hy (fun g w a b ha hb => by
    cases (show a = _ from ha); cases (show b = _ from hb)
    exact ⟨.bool (!strLt m n), by simp [eqGuard, Go.binOp, Op.stringOp, strLt_eq], rfl⟩) k'
end rules
end Go.Av
set_option linter.unusedVariables false
namespace Go.Av
open Go
set_option linter.unusedSectionVars false
variable [Globals]
def takeK {α : Type} : Nat → List AV → (List AV → Option α) → Option α
  | 0, _, k => k []
  | n + 1, x :: l, k => takeK n l fun r => k (x :: r)
  | _ + 1, [], _ => none
def dropL : Nat → List AV → List AV
  | 0, l => l
  | n + 1, _ :: l => dropL n l
  | _ + 1, [] => []
def smallLen {α : Type} : List α → Option Nat
  | [] => some 0
  | [_] => some 1
  | [_, _] => some 2
  | [_, _, _] => some 3
  | [_, _, _, _] => some 4
  | [_, _, _, _, _] => some 5
  | [_, _, _, _, _, _] => some 6
  | [_, _, _, _, _, _, _] => some 7
  | [_, _, _, _, _, _, _, _] => some 8
  | [_, _, _, _, _, _, _, _, _] => some 9
  | [_, _, _, _, _, _, _, _, _, _] => some 10
  | [_, _, _, _, _, _, _, _, _, _, _] => some 11
  | [_, _, _, _, _, _, _, _, _, _, _, _] => some 12
  | l => some l.length
def cut (agg : Bool) (n off : Nat) (cs : List AV) : Option AV :=
  match agg with
  | true => takeK n (dropL off cs) fun r => some (.agg r)
  | false => match dropL off cs with
    | c :: _ => some c
    | [] => none
def cellsK {α : Type} (v : AV) (k : List AV → Option α) : Option α :=
  match v with
  | .agg cs => k cs
  | .undef => none
  | .tup _ => none
  | .bool b => k [.bool b]
  | .int i n => k [.int i n]
  | .str s => k [.str s]
  | .slice xs t => k [.slice xs t]
  | .ptr i o => k [.ptr i o]
  | .rptr x => k [.rptr x]
  | .nilp => k [.nilp]
  | .praw a => k [.praw a]
  | .fn f a b => k [.fn f a b]
  | .nilfn => k [.nilfn]
  | .iface t x => k [.iface t x]
  | .nili => k [.nili]
  | .map i => k [.map i]
  | .nilmap => k [.nilmap]
  | .iter i => k [.iter i]
  | .view xs n => k [.view xs n]
  | .vec i z n l h => k [.vec i z n l h]
  | .vptr i z n j o => k [.vptr i z n j o]
def fits (agg : Bool) (n : Nat) : AV → Bool
  | .agg cs => agg && Nat.beq cs.length n
  | .undef => false
  | .tup _ => false
  | _ => !agg && Nat.beq n 1
def overK {α : Type} : Nat → List AV → List AV → (List AV → Option α) → Option α
  | 0, vs, cs, k => go vs cs k
  | n + 1, vs, c :: cs, k => overK n vs cs fun r => k (c :: r)
  | _ + 1, _, [], _ => none
where
  go : List AV → List AV → (List AV → Option α) → Option α
    | [], cs, k => k cs
    | v :: vs, _ :: cs, k => go vs cs fun r => k (v :: r)
    | _ :: _, [], _ => none
def setK {α : Type} : Nat → List Ob → (Ob → (Ob → Option α) → Option α) → (List Ob → Option α) → Option α
  | 0, o :: B, f, k => f o fun o' => k (o' :: B)
  | n + 1, o :: B, f, k => setK n B f fun r => k (o :: r)
  | _, [], _, _ => none
def snocK {α β : Type} : List β → β → (List β → Option α) → Option α
  | [], o, k => k [o]
  | x :: B, o, k => snocK B o fun r => k (x :: r)
theorem takeK_spec {α : Type} : ∀ (n : Nat) (l : List AV) (k : List AV → Option α) (r : α), takeK n l k = some r → n ≤ l.length ∧ k (l.take n) = some r
  | 0, l, k, r, h => ⟨Nat.zero_le _, by simpa [takeK] using h⟩
  | n + 1, x :: l, k, r, h => by
    have := takeK_spec n l _ r h
    exact ⟨by simpa using this.1, by simpa using this.2⟩
  | n + 1, [], k, r, h => by cases h
theorem dropL_eq : ∀ (n : Nat) (l : List AV), dropL n l = l.drop n
  | 0, l => rfl
  | n + 1, x :: l => by rw [dropL, dropL_eq n l]; rfl
  | n + 1, [] => rfl
theorem cut_spec {agg : Bool} {n off : Nat} {cs : List AV} {v : AV} (h : cut agg n off cs = some v) :
    (agg = true ∧ off + n ≤ max cs.length off ∧ v = .agg ((cs.drop off).take n) ∧ n ≤ (cs.drop off).length) ∨ (agg = false ∧ cs[off]? = some v) := by
  unfold cut at h
  cases agg with
  | true =>
    obtain ⟨h1, h2⟩ := takeK_spec _ _ _ _ h
    rw [dropL_eq] at h1 h2
    refine .inl ⟨rfl, ?_, (Option.some.inj h2).symm, h1⟩
    rw [List.length_drop] at h1
    omega
  | false =>
    right
    refine ⟨rfl, ?_⟩
    simp only [dropL_eq] at h
    cases hd : cs.drop off with
    | nil => rw [hd] at h; cases h
    | cons c l =>
      rw [hd] at h
      cases h
      have : (cs.drop off)[0]? = some v := by rw [hd]; rfl
      simpa using this
def cellsL : AV → List AV
  | .agg cs => cs
  | v => [v]
theorem cellsK_pure {α : Type} {v : AV} {k : List AV → Option α} {r : α} (h : cellsK v k = some r) : k (cellsL v) = some r ∧ cellsK v some = some (cellsL v) := by
  cases v <;> first | exact ⟨h, rfl⟩ | cases h
theorem cellsK_spec {α : Type} {v : AV} {k : List AV → Option α} {r : α} (h : cellsK v k = some r) {g : Gh} {w : World} {u : Value} (hv : Rep g w v u) :
    ∃ cs, k cs = some r ∧ RepL g w cs u.cells.toList ∧ (∀ x ∈ u.cells.toList, x.oneCell' = true) := by
  cases v with
  | agg cs => obtain ⟨vs, rfl, h1, h2⟩ := hv; exact ⟨cs, h, h1, h2⟩
  | undef => cases h
  | tup cs => cases h
  | bool b => cases (show u = _ from hv); exact ⟨_, h, ⟨_, [], rfl, rfl, rfl⟩, by simp [Value.cells, Value.oneCell']⟩
  | int i n => cases (show u = _ from hv); exact ⟨_, h, ⟨_, [], rfl, rfl, rfl⟩, by simp [Value.cells, Value.oneCell']⟩
  | str s => cases (show u = _ from hv); exact ⟨_, h, ⟨_, [], rfl, rfl, rfl⟩, by simp [Value.cells, Value.oneCell']⟩
  | slice xs t =>
    have hv' := hv
    obtain ⟨a, cap, sz, Vs, rfl, _⟩ := hv
    exact ⟨_, h, ⟨_, [], rfl, hv', rfl⟩, by simp [Value.cells, Value.oneCell']⟩
  | ptr i o =>
    have hv' := hv
    obtain ⟨b, _, rfl⟩ := hv
    exact ⟨_, h, ⟨_, [], rfl, hv', rfl⟩, by simp [Value.cells, Value.oneCell']⟩
  | rptr x =>
    have hv' := hv
    obtain ⟨b, o, V, rfl, _⟩ := hv
    exact ⟨_, h, ⟨_, [], rfl, hv', rfl⟩, by simp [Value.cells, Value.oneCell']⟩
  | nilp => cases (show u = _ from hv); exact ⟨_, h, ⟨_, [], rfl, rfl, rfl⟩, by simp [Value.cells, Value.oneCell']⟩
  | praw a => cases (show u = _ from hv); exact ⟨_, h, ⟨_, [], rfl, rfl, rfl⟩, by simp [Value.cells, Value.oneCell']⟩
  | fn f a b =>
    have hv' := hv
    obtain ⟨vs, ws, rfl, _⟩ := hv
    exact ⟨_, h, ⟨_, [], rfl, hv', rfl⟩, by simp [Value.cells, Value.oneCell']⟩
  | nilfn => cases (show u = _ from hv); exact ⟨_, h, ⟨_, [], rfl, rfl, rfl⟩, by simp [Value.cells, Value.oneCell']⟩
  | iface t x =>
    have hv' := hv
    obtain ⟨y, rfl, _⟩ := hv
    exact ⟨_, h, ⟨_, [], rfl, hv', rfl⟩, by simp [Value.cells, Value.oneCell']⟩
  | nili => cases (show u = _ from hv); exact ⟨_, h, ⟨_, [], rfl, rfl, rfl⟩, by simp [Value.cells, Value.oneCell']⟩
  | map i =>
    have hv' := hv
    obtain ⟨b, _, rfl⟩ := hv
    exact ⟨_, h, ⟨_, [], rfl, hv', rfl⟩, by simp [Value.cells, Value.oneCell']⟩
  | nilmap => cases (show u = _ from hv); exact ⟨_, h, ⟨_, [], rfl, rfl, rfl⟩, by simp [Value.cells, Value.oneCell']⟩
  | iter i =>
    have hv' := hv
    obtain ⟨b, _, rfl⟩ := hv
    exact ⟨_, h, ⟨_, [], rfl, hv', rfl⟩, by simp [Value.cells, Value.oneCell']⟩
  | view xs n =>
    have hv' := hv
    obtain ⟨a, cap, sz, Vs, rfl, _⟩ := hv
    exact ⟨_, h, ⟨_, [], rfl, hv', rfl⟩, by simp [Value.cells, Value.oneCell']⟩
  | vptr i z n j o =>
    have hv' := hv
    obtain ⟨b, o, rfl, _⟩ := hv
    exact ⟨_, h, ⟨_, [], rfl, hv', rfl⟩, by simp [Value.cells, Value.oneCell']⟩
  | vec i z n l hh =>
    have hv' := hv
    obtain ⟨a, cap, rfl, _⟩ := hv
    exact ⟨_, h, ⟨_, [], rfl, hv', rfl⟩, by simp [Value.cells, Value.oneCell']⟩
theorem fits_spec {agg : Bool} {n : Nat} {v : AV} (h : fits agg n v = true) {g : Gh} {w : World} {u : Value} (hv : Rep g w v u) :
    u.cells.size = n ∧ (agg = true → ∃ vs, u = .agg vs ∧ vs.size = n) ∧ (agg = false → u.cells = #[u] ∧ n = 1) ∧ (∀ x ∈ u.cells.toList, x.oneCell' = true) := by
  have one : ∀ (agg : Bool), (!agg && Nat.beq n 1) = true → u.cells = #[u] → u.oneCell' = true → u.cells.size = n ∧ (agg = true → ∃ vs, u = .agg vs ∧ vs.size = n) ∧ (agg = false → u.cells = #[u] ∧ n = 1) ∧ (∀ x ∈ u.cells.toList, x.oneCell' = true) := by
    intro agg h1 h2 h3
    simp only [Bool.and_eq_true, Bool.not_eq_true'] at h1
    have h4 : n = 1 := Nat.eq_of_beq_eq_true h1.2
    rw [h2]
    refine ⟨by rw [h4]; rfl, fun e => ?_, fun _ => ⟨rfl, h4⟩, fun x hx => ?_⟩
    · rw [h1.1] at e; cases e
    · simp at hx; subst hx; exact h3
  cases v with
  | agg cs =>
    obtain ⟨vs, rfl, h1, h2⟩ := hv
    simp only [fits, Bool.and_eq_true] at h
    have h3 : cs.length = n := Nat.eq_of_beq_eq_true h.2
    have h4 : vs.size = n := by have := h1.length; simp at this; omega
    refine ⟨h4, fun _ => ⟨vs, rfl, h4⟩, fun e => ?_, h2⟩
    rw [h.1] at e; cases e
  | undef => cases h
  | tup cs => cases h
  | slice xs t => obtain ⟨a, cap, sz, Vs, rfl, _⟩ := hv; exact one agg h rfl rfl
  | ptr i o => obtain ⟨b, _, rfl⟩ := hv; exact one agg h rfl rfl
  | rptr x => obtain ⟨b, o, V, rfl, _⟩ := hv; exact one agg h rfl rfl
  | fn f a b => obtain ⟨vs, ws, rfl, _⟩ := hv; exact one agg h rfl rfl
  | iface t x => obtain ⟨y, rfl, _⟩ := hv; exact one agg h rfl rfl
  | map i => obtain ⟨b, _, rfl⟩ := hv; exact one agg h rfl rfl
  | iter i => obtain ⟨b, _, rfl⟩ := hv; exact one agg h rfl rfl
  | view xs n => obtain ⟨a, cap, sz, Vs, rfl, _⟩ := hv; exact one agg h rfl rfl
  | vec i z n l hh => obtain ⟨a, cap, rfl, _⟩ := hv; exact one agg h rfl rfl
  | vptr i z n j o => obtain ⟨b, o, rfl, _⟩ := hv; exact one agg h rfl rfl
  | bool b => cases (show u = _ from hv); exact one agg h rfl rfl
  | int i n => cases (show u = _ from hv); exact one agg h rfl rfl
  | str s => cases (show u = _ from hv); exact one agg h rfl rfl
  | nilp => cases (show u = _ from hv); exact one agg h rfl rfl
  | praw a => cases (show u = _ from hv); exact one agg h rfl rfl
  | nilfn => cases (show u = _ from hv); exact one agg h rfl rfl
  | nili => cases (show u = _ from hv); exact one agg h rfl rfl
  | nilmap => cases (show u = _ from hv); exact one agg h rfl rfl
theorem overGo_spec {α : Type} : ∀ (vs cs : List AV) (k : List AV → Option α) (r : α), overK.go vs cs k = some r → vs.length ≤ cs.length ∧ k (vs ++ cs.drop vs.length) = some r
  | [], cs, k, r, h => ⟨Nat.zero_le _, by simpa [overK.go] using h⟩
  | v :: vs, c :: cs, k, r, h => by
    have := overGo_spec vs cs _ r h
    exact ⟨by simpa using this.1, by simpa using this.2⟩
  | v :: vs, [], k, r, h => by cases h
theorem overK_spec {α : Type} : ∀ (n : Nat) (vs cs : List AV) (k : List AV → Option α) (r : α), overK n vs cs k = some r →
    n + vs.length ≤ cs.length ∧ k (cs.take n ++ vs ++ cs.drop (n + vs.length)) = some r
  | 0, vs, cs, k, r, h => by
    have := overGo_spec vs cs k r h
    simpa using this
  | n + 1, vs, c :: cs, k, r, h => by
    have := overK_spec n vs cs _ r h
    refine ⟨by simp; omega, ?_⟩
    have e : n + 1 + vs.length = (n + vs.length) + 1 := by omega
    rw [e]
    simpa using this.2
  | n + 1, vs, [], k, r, h => by cases h
theorem setK_spec {α : Type} : ∀ (i : Nat) (B : List Ob) (f : Ob → (Ob → Option α) → Option α) (k : List Ob → Option α) (r : α), setK i B f k = some r →
    ∃ o, B[i]? = some o ∧ f o (fun o' => k (B.set i o')) = some r
  | 0, o :: B, f, k, r, h => ⟨o, rfl, h⟩
  | n + 1, o :: B, f, k, r, h => by
    obtain ⟨o1, h1, h2⟩ := setK_spec n B f _ r h
    exact ⟨o1, by simpa using h1, by simpa using h2⟩
  | 0, [], f, k, r, h => by cases h
  | n + 1, [], f, k, r, h => by cases h
theorem snocK_spec {α β : Type} : ∀ (B : List β) (o : β) (k : List β → Option α) (r : α), snocK B o k = some r → k (B ++ [o]) = some r
  | [], o, k, r, h => h
  | x :: B, o, k, r, h => snocK_spec B o _ r h
theorem smallLen_spec {α : Type} {l : List α} {n : Nat} (h : smallLen l = some n) : l.length = n := by
  unfold smallLen at h
  split at h <;> cases h <;> rfl
end Go.Av
