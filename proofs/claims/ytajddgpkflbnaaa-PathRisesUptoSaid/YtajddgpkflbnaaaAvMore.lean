/-
  More rules of single operations: numbers of other kinds, shifts, quotients, parts of texts.
-/
import Derived.Test.YtajddgpkflbnaaaAvVec5
namespace Go.Av
open Go
set_option linter.unusedSectionVars false
set_option linter.unusedSimpArgs false
variable [Globals]
section
variable {P : Program} {all : Array Oper} {draw : Bool} {K : AX → Slots → St → Prop} {rest : List Oper} {acc : List Tag} {s : Slots} {σ : St}
variable {d : Tmp} {ty : TypeId} {pos : String} {af : Array Edge}

theorem A.shr {x y : Operand} {T U : TypeId} {k ky : IntKind} {m n r : Int} (hx : ev? s x = some (.int k m)) (hy : ev? s y = some (.int ky n)) (hn : 0 ≤ n) (hr : m.fdiv (2 ^ min n.toNat k.bits) = r)
    (k' : AOps P all draw K rest (.pure :: acc) ((d, .int k r) :: s) σ) : AOps P all draw K (⟨some d, .binOp .shr T x y U, ty, pos, af, none⟩ :: rest) acc s σ :=
  two_ops hx hy (fun g w a b ha hb => by
    cases (show a = _ from ha); cases (show b = _ from hb)
    exact ⟨.int k r, by simp [eqGuard, Go.binOp, Op.shift, Int.not_lt.2 hn, hr], rfl⟩) k'
theorem A.shl {x y : Operand} {T U : TypeId} {k ky : IntKind} {m n r : Int} (hx : ev? s x = some (.int k m)) (hy : ev? s y = some (.int ky n)) (hn : 0 ≤ n) (hr : k.wrap (m * 2 ^ min n.toNat k.bits) = r)
    (k' : AOps P all draw K rest (.pure :: acc) ((d, .int k r) :: s) σ) : AOps P all draw K (⟨some d, .binOp .shl T x y U, ty, pos, af, none⟩ :: rest) acc s σ :=
  two_ops hx hy (fun g w a b ha hb => by
    cases (show a = _ from ha); cases (show b = _ from hb)
    exact ⟨.int k r, by simp [eqGuard, Go.binOp, Op.shift, Int.not_lt.2 hn, hr], rfl⟩) k'
theorem A.quo {x y : Operand} {T U : TypeId} {k : IntKind} {m n r : Int} (hx : ev? s x = some (.int k m)) (hy : ev? s y = some (.int k n)) (hn : n ≠ 0) (hr : k.wrap (m.tdiv n) = r)
    (k' : AOps P all draw K rest (.pure :: acc) ((d, .int k r) :: s) σ) : AOps P all draw K (⟨some d, .binOp .quo T x y U, ty, pos, af, none⟩ :: rest) acc s σ :=
  two_ops hx hy (fun g w a b ha hb => by
    cases (show a = _ from ha); cases (show b = _ from hb)
    exact ⟨.int k r, by simp [eqGuard, Go.binOp, Op.intDiv, hn, hr], rfl⟩) k'
theorem A.rem {x y : Operand} {T U : TypeId} {k : IntKind} {m n r : Int} (hx : ev? s x = some (.int k m)) (hy : ev? s y = some (.int k n)) (hn : n ≠ 0) (hr : m.tmod n = r)
    (k' : AOps P all draw K rest (.pure :: acc) ((d, .int k r) :: s) σ) : AOps P all draw K (⟨some d, .binOp .rem T x y U, ty, pos, af, none⟩ :: rest) acc s σ :=
  two_ops hx hy (fun g w a b ha hb => by
    cases (show a = _ from ha); cases (show b = _ from hb)
    exact ⟨.int k r, by simp [eqGuard, Go.binOp, Op.intDiv, hn, hr], rfl⟩) k'

/-- Half of a number. -/
theorem A.shr1 {x : Operand} {T U : TypeId} {m r : Int} (hx : ev? s x = some (.int .u64 m)) (hr : m / 2 = r)
    (k' : AOps P all draw K rest (.pure :: acc) ((d, .int .u64 r) :: s) σ) : AOps P all draw K (⟨some d, .binOp .shr T x (.const (.int .u64 1)) U, ty, pos, af, none⟩ :: rest) acc s σ :=
  A.shr hx rfl (by decide) (by
    show m.fdiv 2 = r
    rw [← hr, Int.fdiv_eq_ediv_of_nonneg _ (by decide)]) k'
/-- A product that stays in its bounds. -/
theorem A.mul64 {x y : Operand} {T U : TypeId} {m n r : Int} (hx : ev? s x = some (.int .i64 m)) (hy : ev? s y = some (.int .i64 n)) (hr : m * n = r) (hb : -9223372036854775808 ≤ r ∧ r ≤ 9223372036854775807)
    (k' : AOps P all draw K rest (.pure :: acc) ((d, .int .i64 r) :: s) σ) : AOps P all draw K (⟨some d, .binOp .mul T x y U, ty, pos, af, none⟩ :: rest) acc s σ :=
  A.mul hx hy (by rw [hr, IntWalk.i64_in r hb]; exact k')

/-- What the lengths of the arguments' slices are bound by may be taken for granted. -/
theorem PFn.bounded {f : FuncId} {args : List AV} {r : AV} {b : Prop} (hc : Callable P f) (ha : AV.closedL args = true) (hb : ∀ (g : Gh) (w : World) (vs : List Value), RepL g w args vs → b) (h : b → PFn P f args r) : PFn P f args r :=
  ⟨hc, ha, fun im w vals him hgl hl => (h (hb _ _ _ hl)).2.2 im w vals him hgl hl⟩
theorem rep_len {g : Gh} {w : World} {xs : List AV} {t : Tk} {v : Value} (h : Rep g w (.slice xs t) v) : xs.length ≤ maxLen := by
  obtain ⟨a, cap, sz, Vs, e, h1, h2, h3, h4, _⟩ := h
  have := h4.length
  omega

variable [Lay P]
theorem kind_int {dd : TypeDesc} {k : IntKind} (h : kindOf dd = .int k) : dd = .int k := by
  cases dd with
  | int k' => simpa [kindOf] using h
  | _ => simp [kindOf] at h
theorem kind_string {dd : TypeDesc} (h : kindOf dd = .string) : dd = .string := by
  cases dd with
  | string => rfl
  | _ => simp [kindOf] at h
/-- A number of another kind. -/
theorem A.conv {x : Operand} {T U : TypeId} {k ka : IntKind} {n r : Int} {tT tU : TI} (hT : ty? P T = some tT) (hU : ty? P U = some tU) (hk : tU.kind = .int k) (hx : ev? s x = some (.int ka n)) (hr : k.wrap n = r)
    (kk : AOps P all draw K rest (.pure :: acc) ((d, .int k r) :: s) σ) : AOps P all draw K (⟨some d, .convert T U x, ty, pos, af, none⟩ :: rest) acc s σ :=
  A.step rfl (tpure fun g w a ho => by
    have h1 : a.eval x = .int ka n := op1 hx (by simp [Op.operands]) ho
    obtain ⟨_, d1, _, _, t2, _⟩ := (ty_ok hT).ex
    obtain ⟨_, d2, _, _, u2, u3, _⟩ := (ty_ok hU).ex
    have hd := kind_int (u3.trans hk)
    subst hd
    refine ⟨.int k r, ?_, rfl⟩
    subst hr
    simp [execOp, Go.convert, h1, run_underlying t2, run_underlying u2, Result.andThen, Conv.intToInt]) kk

/-- A part of a text. -/
theorem A.slice_s {T : TypeId} {x : Operand} {lo hi : Option Operand} {xs ys : List UInt8} {nl nh : Int} {ti : TI} (l h : Nat) (hT : ty? P T = some ti) (hk : ti.kind = .string) (hx : ev? s x = some (.str xs))
    (hl : bnd? s lo 0 = some nl) (hh : bnd? s hi xs.length = some nh) (el : nl = (l : Int)) (eh : nh = (h : Int)) (h1 : l ≤ h) (h2 : h ≤ xs.length) (hy : (xs.take h).drop l = ys)
    (k : AOps P all draw K rest (.pure :: acc) ((d, .str ys) :: s) σ) : AOps P all draw K (⟨some d, .slice T x lo hi none, ty, pos, af, none⟩ :: rest) acc s σ :=
  A.step rfl (tpure fun g w a ho => by
    have hx' : a.eval x = .string ⟨xs.toArray⟩ := op1 hx (by simp [Op.operands]) ho
    obtain ⟨_, d1, _, _, t2, t3, _⟩ := (ty_ok hT).ex
    have hd := kind_string (t3.trans hk)
    subst hd
    have hsz : (⟨xs.toArray⟩ : ByteArray).size = xs.length := by simp [ByteArray.size]
    have hex : (⟨xs.toArray⟩ : ByteArray).extract l h = ⟨ys.toArray⟩ := by
      apply ByteArray.ext
      rw [ByteArray.data_extract]
      simp [← hy, List.drop_take]
    refine ⟨.string ⟨ys.toArray⟩, ?_, rfl⟩
    have hhi : ∀ y, hi = some y → (Instr.sliceBound (a.eval y) xs.length .sliceAlen).run P w = .ok h w := fun y e => by
      subst e; exact bound_run hh eh h2 (ho y (by simp [Op.operands]))
    have hlo : ∀ y, lo = some y → (Instr.sliceBound (a.eval y) h .sliceB).run P w = .ok l w := fun y e => by
      subst e; exact bound_run hl el h1 (ho y (by cases hi <;> simp [Op.operands]))
    have h0 : lo = none → l = 0 := by
      intro e0
      subst e0
      have : (0 : Int) = nl := Option.some.inj hl
      omega
    have h00 : hi = none → h = xs.length := by
      intro e0
      subst e0
      have : (xs.length : Int) = nh := Option.some.inj hh
      omega
    cases lo with
    | none =>
      have hl0 := h0 rfl
      subst hl0
      cases hi with
      | none =>
        have hh0 := h00 rfl
        subst hh0
        have hyx : xs = ys := by simpa using hy
        simp [execOp, hx', Instr.sliceAt, run_underlying t2, Result.andThen, Instr.slice, Instr.sliceBounds, hsz, hyx]
      | some y =>
        have := hhi y rfl
        simp [execOp, hx', Instr.sliceAt, run_underlying t2, Result.andThen, Instr.slice, Instr.sliceBounds, hsz, hex, this]
    | some z =>
      have hz := hlo z rfl
      cases hi with
      | none =>
        have hh0 := h00 rfl
        subst hh0
        simp [execOp, hx', Instr.sliceAt, run_underlying t2, Result.andThen, Instr.slice, Instr.sliceBounds, hsz, hex, hz]
      | some y =>
        have := hhi y rfl
        simp [execOp, hx', Instr.sliceAt, run_underlying t2, Result.andThen, Instr.slice, Instr.sliceBounds, hsz, hex, hz, this]) k
end
end Go.Av
