/-
  Operations that only look at their operands, in one rule; the rules' short names; loops by a counter.
-/
import Derived.Test.YtmfmdehfbpkgdaaGreatDoorAvMap
import Derived.Test.YtmfmdehfbpkgdaaGreatDoorAvRen4
set_option linter.unusedVariables false
namespace Go.Av
open Go
set_option linter.unusedSectionVars false
variable [Globals]
section
variable {P : Program} [Lay P] {all : Array Oper} {draw : Bool} {K : AX → Slots → St → Prop} {rest : List Oper} {acc : List Tag} {s : Slots} {σ : St}
variable {d : Tmp} {ty : TypeId} {pos : String} {af : Array Edge}
def pvBin (P : Program) [Lay P] (T : TypeId) : BinOp → AV → AV → Option AV
  | .lss, .int k m, .int k' n => match decEq k k' with | isTrue _ => some (.bool (decide (m < n))) | isFalse _ => none
  | .leq, .int k m, .int k' n => match decEq k k' with | isTrue _ => some (.bool (decide (m ≤ n))) | isFalse _ => none
  | .gtr, .int k m, .int k' n => match decEq k k' with | isTrue _ => some (.bool (decide (n < m))) | isFalse _ => none
  | .geq, .int k m, .int k' n => match decEq k k' with | isTrue _ => some (.bool (decide (n ≤ m))) | isFalse _ => none
  | .eql, .int k m, .int k' n => match decEq k k' with | isTrue _ => some (.bool (m == n)) | isFalse _ => none
  | .neq, .int k m, .int k' n => match decEq k k' with | isTrue _ => some (.bool (m != n)) | isFalse _ => none
  | .eql, .str m, .str n => some (.bool (m == n))
  | .neq, .str m, .str n => some (.bool (m != n))
  | .lss, .str m, .str n => some (.bool (strLt m n))
  | .gtr, .str m, .str n => some (.bool (!(strLt m n || m == n)))
  | .leq, .str m, .str n => some (.bool (strLt m n || m == n))
  | .geq, .str m, .str n => some (.bool (!strLt m n))
  | .eql, .bool m, .bool n => match ty? P T with | some ti => (match ti.kind with | .bool => some (.bool (m == n)) | _ => none) | none => none
  | .neq, .bool m, .bool n => match ty? P T with | some ti => (match ti.kind with | .bool => some (.bool (m != n)) | _ => none) | none => none
  | _, _, _ => none
theorem A.pvBin {op : BinOp} {T U : TypeId} {x y : Operand} {a b v : AV} (hx : ev? s x = some a) (hy : ev? s y = some b) (h : Av.pvBin P T op a b = some v) (k : AOps P all draw K rest (.pure :: acc) ((d, v) :: s) σ) :
    AOps P all draw K (⟨some d, .binOp op T x y U, ty, pos, af, none⟩ :: rest) acc s σ := by
  unfold Av.pvBin at h
  split at h
  · split at h <;> cases h; rename_i e _; subst e; exact A.lss hx hy k
  · split at h <;> cases h; rename_i e _; subst e; exact A.leq hx hy k
  · split at h <;> cases h; rename_i e _; subst e; exact A.gtr hx hy k
  · split at h <;> cases h; rename_i e _; subst e; exact A.geq hx hy k
  · split at h <;> cases h; rename_i e _; subst e; exact A.eqi hx hy k
  · split at h <;> cases h; rename_i e _; subst e; exact A.nei hx hy k
  · cases h; exact A.eqs hx hy k
  · cases h; exact A.nes hx hy k
  · cases h; exact A.lts hx hy k
  · cases h; exact A.gts hx hy k
  · cases h; exact A.les hx hy k
  · cases h; exact A.ges hx hy k
  · split at h
    · rename_i ti hT
      split at h <;> cases h
      exact A.eqb hT ‹_› hx hy k
    · cases h
  · split at h
    · rename_i ti hT
      split at h <;> cases h
      exact A.neb hT ‹_› hx hy k
    · cases h
  · cases h
def pv (P : Program) [Lay P] (s : Slots) : Op → Option AV
  | .move x => ev? s x
  | .assign x => ev? s x
  | .load T x => match ev? s x with
    | some (.rptr y) => (match ty? P T with | some ti => bif fits ti.agg ti.size y then some y else none | none => none)
    | _ => none
  | .fieldAddr T x f => match ty? P T with
    | none => none
    | some ti => match ti.kind with
      | .struct => (match ti.fields[f]? with
        | some (o, n, ag) => (match ev? s x with
          | some (.rptr (.agg cs)) => bif Nat.blt 0 n then (match cut ag n o cs with | some y => some (.rptr y) | none => none) else none
          | some (.ptr i off) => bif Nat.blt 0 n then some (.ptr i (off + o)) else none
          | some (.vptr k z nn j off) => bif Nat.blt 0 n then some (.vptr k z nn j (off + o)) else none
          | _ => none)
        | none => none)
      | _ => none
  | .field T x f => match ty? P T with
    | none => none
    | some ti => match ti.kind with
      | .struct => (match ti.fields[f]? with
        | some (o, n, ag) => (match ev? s x with | some (.agg cs) => cut ag n o cs | _ => none)
        | none => none)
      | _ => none
  | .binOp op T x y _ => match ev? s x with
    | some a => (match ev? s y with | some b => pvBin P T op a b | none => none)
    | none => none
  | .unOp .not _ x => match ev? s x with | some (.bool b) => some (.bool (!b)) | _ => none
  | .extract x i => match ev? s x with | some (.tup vs) => vs[i]? | _ => none
  | .build T parts => match ty? P T with
    | none => none
    | some ti => match ti.kind with
      | .struct => (match ti.zero with | .agg zs => fillK (placeOf ti.fields) s parts.toList zs (fun cs => some (.agg cs)) | _ => none)
      | _ => none
  | .buildSlice T len parts => match ty? P T with
    | none => none
    | some ti => match ti.kind with
      | .slice => (match ty? P ti.elem with
        | some te => bif (te.agg || Nat.beq te.size 1) && Nat.ble (len * te.size) 16777216 && Nat.ble len 16777216 then
            fillK (fun i => some (i * te.size, te.size)) s parts.toList (List.replicate (len * te.size) .undef) (fun cs => chunkK te.agg te.size len cs fun xs => some (.slice xs .full)) else none
        | none => none)
      | _ => none
  | .makeInterface T x => match ty? P T with
    | none => none
    | some ti => match ti.kind with
      | .iface => none
      | _ => (match ev? s x with | some v => some (.iface T v) | none => none)
  | _ => none
theorem bif_some {α : Type} {b : Bool} {x : Option α} {y : α} (h : (bif b then x else none) = some y) : b = true ∧ x = some y := by
  cases b
  · cases h
  · exact ⟨rfl, h⟩
theorem A.pv {op : Op} {v : AV} (h : Av.pv P s op = some v) (k : AOps P all draw K rest (.pure :: acc) ((d, v) :: s) σ) : AOps P all draw K (⟨some d, op, ty, pos, af, none⟩ :: rest) acc s σ := by
  unfold Av.pv at h
  split at h
  · exact A.move h k
  · exact A.assign h k
  · split at h
    · rename_i hx
      split at h
      · rename_i hT
        obtain ⟨h1, h2⟩ := bif_some h
        cases h2
        exact A.load_r hT hx h1 k
      · cases h
    · cases h
  · split at h
    · cases h
    · rename_i hT
      split at h
      · rename_i hk
        split at h
        · rename_i hf
          split at h
          · rename_i hx
            obtain ⟨h1, h2⟩ := bif_some h
            split at h2
            · cases h2; exact A.field_r hT hx hf hk h1 ‹_› k
            · cases h2
          · rename_i hx
            obtain ⟨h1, h2⟩ := bif_some h
            cases h2
            exact A.field_b hT hx hf hk h1 rfl k
          · rename_i hx
            obtain ⟨h1, h2⟩ := bif_some h
            cases h2
            exact A.vfield hT hx hf hk h1 rfl k
          · cases h
        · cases h
      · cases h
  · split at h
    · cases h
    · rename_i hT
      split at h
      · rename_i hk
        split at h
        · rename_i hf
          split at h
          · rename_i hx
            exact A.field hT hx hf hk h k
          · cases h
        · cases h
      · cases h
  · split at h
    · rename_i hx
      split at h
      · rename_i hy
        exact A.pvBin hx hy h k
      · cases h
    · cases h
  · split at h
    · rename_i hx
      cases h
      exact A.not hx k
    · cases h
  · split at h
    · rename_i hx
      exact A.extract hx h k
    · cases h
  · split at h
    · cases h
    · rename_i hT
      split at h
      · rename_i hk
        split at h
        · rename_i hz
          exact A.build hT hk hz h k
        · cases h
      · cases h
  · split at h
    · cases h
    · rename_i hT
      split at h
      · rename_i hk
        split at h
        · rename_i hE
          obtain ⟨h1, h2⟩ := bif_some h
          simp only [Bool.and_eq_true] at h1
          exact A.buildSlice hT hk hE h1.1.1 h1.1.2 h1.2 h2 k
        · cases h
      · cases h
  · split at h
    · cases h
    · rename_i hT
      split at h
      · cases h
      · rename_i hk
        split at h
        · rename_i hx
          cases h
          exact A.makeIface hT (fun e => hk e) hx k
        · cases h
  · cases h
theorem AOps.lb {T : TypeId} {x : Operand} {i off : Nat} {cs : List AV} {v : AV} {ti : TI} (k : AOps P all draw K rest (.ri i :: acc) ((d, v) :: s) σ) (hT : ty? P T = some ti := by exact rfl) (hx : ev? s x = some (.ptr i off) := by exact rfl) (hB : σ.B[i]? = some (.cells cs) := by exact rfl) (hv : cut ti.agg ti.size off cs = some v := by exact rfl) :
 AOps P all draw K (⟨some d, .load T x, ty, pos, af, none⟩ :: rest) acc s σ := A.load_b hT hx hB hv k
theorem AOps.ln {T : TypeId} {x : Operand} {xs : List AV} {tk : Tk} {n : Int} {ti : TI} (k : AOps P all draw K rest (.pure :: acc) ((d, .int .i64 n) :: s) σ) (hT : ty? P T = some ti := by exact rfl) (hk : ti.kind = .slice := by exact rfl) (hx : ev? s x = some (.slice xs tk) := by exact rfl) (hn : (xs.length : Int) = n := by first | rw [List.length_map] | exact rfl) :
 AOps P all draw K (⟨some d, .call ⟨.builtin .len, #[x], #[T]⟩, ty, pos, af, none⟩ :: rest) acc s σ := A.len hT hk hx hn k
theorem AOps.ls {T : TypeId} {x : Operand} {xs : List UInt8} {n : Int} {ti : TI} (k : AOps P all draw K rest (.pure :: acc) ((d, .int .i64 n) :: s) σ) (hT : ty? P T = some ti := by exact rfl) (hk : ti.kind = .string := by exact rfl) (hx : ev? s x = some (.str xs) := by exact rfl) (hn : (xs.length : Int) = n := by exact rfl) :
 AOps P all draw K (⟨some d, .call ⟨.builtin .len, #[x], #[T]⟩, ty, pos, af, none⟩ :: rest) acc s σ := A.lens hT hk hx hn k
theorem AOps.vl {T : TypeId} {x : Operand} {k z n0 lo hi : Nat} {n : Int} {ti : TI} (kk : AOps P all draw K rest (.pure :: acc) ((d, .int .i64 n) :: s) σ) (hT : ty? P T = some ti := by exact rfl) (hk : ti.kind = .slice := by exact rfl) (hx : ev? s x = some (.vec k z n0 lo hi) := by exact rfl) (hn : ((hi - lo : Nat) : Int) = n := by exact rfl) :
 AOps P all draw K (⟨some d, .call ⟨.builtin .len, #[x], #[T]⟩, ty, pos, af, none⟩ :: rest) acc s σ := A.vlen hT hk hx hn kk
theorem AOps.ix {T : TypeId} {x i : Operand} {xs : List AV} {tk : Tk} {ik : IntKind} {n : Int} {j : Nat} {y : AV} {ti te : TI} (k : AOps P all draw K rest (.pure :: acc) ((d, .rptr y) :: s) σ) (hT : ty? P T = some ti := by exact rfl) (hk : ti.kind = .slice := by exact rfl) (hE : ty? P ti.elem = some te := by exact rfl) (hx : ev? s x = some (.slice xs tk) := by exact rfl) (hi : ev? s i = some (.int ik n) := by exact rfl) (hj : n = (j : Int) := by exact rfl) (hy : xs[j]? = some y := by assumption) (hf : fits te.agg te.size y = true := by exact rfl) :
 AOps P all draw K (⟨some d, .indexAddr T x i, ty, pos, af, none⟩ :: rest) acc s σ := A.index_r hT hk hE hx hi hj hy hf k
theorem AOps.pt {c x y : Operand} {b : Bool} {v : AV} (k : AOps P all draw K rest (.pure :: acc) ((d, v) :: s) σ) (hc : ev? s c = some (.bool b) := by exact rfl) (hb : b = true := by first | exact rfl | assumption) (h : ev? s x = some v := by exact rfl) :
 AOps P all draw K (⟨some d, .pick c x y, ty, pos, af, none⟩ :: rest) acc s σ := A.pick_true hc hb h k
theorem AOps.pf {c x y : Operand} {b : Bool} {v : AV} (k : AOps P all draw K rest (.pure :: acc) ((d, v) :: s) σ) (hc : ev? s c = some (.bool b) := by exact rfl) (hb : b = false := by first | exact rfl | assumption) (h : ev? s y = some v := by exact rfl) :
 AOps P all draw K (⟨some d, .pick c x y, ty, pos, af, none⟩ :: rest) acc s σ := A.pick_false hc hb h k
theorem AOps.bx {T : TypeId} {x : Operand} {v : AV} {i : Nat} {B' : List Ob} (k : AOps P all draw K rest (.wb :: acc) ((d, .ptr i 0) :: s) ⟨B', σ.T⟩) (hx : ev? s x = some v := by exact rfl) (hi : smallLen σ.B = some i := by exact rfl) (hB : cellsK v (fun cs => snocK σ.B (.cells cs) some) = some B' := by exact rfl) :
 AOps P all draw K (⟨some d, .box T x, ty, pos, af, none⟩ :: rest) acc s σ := A.box hx hi hB k
theorem AOps.br {T : TypeId} {x : Operand} {v : AV} (k : AOps P all draw K rest (.pure :: acc) ((d, .rptr v) :: s) σ) (hx : ev? s x = some v := by exact rfl) (hc : cellsK v (fun _ => some ()) = some () := by exact rfl) :
 AOps P all draw K (⟨some d, .box T x, ty, pos, af, none⟩ :: rest) acc s σ := A.box_r hx hc k
theorem AOps.al {T : TypeId} {i : Nat} {B' : List Ob} {ti : TI} (k : AOps P all draw K rest (.wb :: acc) ((d, .ptr i 0) :: s) ⟨B', σ.T⟩) (hT : ty? P T = some ti := by exact rfl) (hi : smallLen σ.B = some i := by exact rfl) (hB : cellsK ti.zero (fun cs => snocK σ.B (.cells cs) some) = some B' := by exact rfl) :
 AOps P all draw K (⟨some d, .alloc T, ty, pos, af, none⟩ :: rest) acc s σ := A.alloc hT hi hB k
theorem AOps.st {T : TypeId} {x y : Operand} {i off : Nat} {v : AV} {B' : List Ob} {ti : TI} (k : AOps P all draw K rest (.wi i :: acc) s ⟨B', σ.T⟩) (hT : ty? P T = some ti := by exact rfl) (hx : ev? s x = some (.ptr i off) := by exact rfl) (hy : ev? s y = some v := by exact rfl) (hf : fits ti.agg ti.size v = true := by exact rfl) (hB : setK i σ.B (fun o k => match o with | .cells cs => cellsK v (fun vs => overK off vs cs (fun cs' => k (.cells cs'))) | _ => none) some = some B' := by exact rfl) :
 AOps P all draw K (⟨none, .store T x y, ty, pos, af, none⟩ :: rest) acc s σ := A.store hT hx hy hf hB k
theorem AOps.ad {x y : Operand} {T U : TypeId} {m n r : Int} (k' : AOps P all draw K rest (.pure :: acc) ((d, .int .i64 r) :: s) σ) (hx : ev? s x = some (.int .i64 m) := by exact rfl) (hy : ev? s y = some (.int .i64 n) := by exact rfl) (hr : m + n = r := by exact rfl) (hb : -9223372036854775808 ≤ r ∧ r ≤ 9223372036854775807 := by omega) :
 AOps P all draw K (⟨some d, .binOp .add T x y U, ty, pos, af, none⟩ :: rest) acc s σ := A.add64 hx hy hr hb k'
theorem AOps.sb {x y : Operand} {T U : TypeId} {m n r : Int} (k' : AOps P all draw K rest (.pure :: acc) ((d, .int .i64 r) :: s) σ) (hx : ev? s x = some (.int .i64 m) := by exact rfl) (hy : ev? s y = some (.int .i64 n) := by exact rfl) (hr : m - n = r := by exact rfl) (hb : -9223372036854775808 ≤ r ∧ r ≤ 9223372036854775807 := by omega) :
 AOps P all draw K (⟨some d, .binOp .sub T x y U, ty, pos, af, none⟩ :: rest) acc s σ := A.sub64 hx hy hr hb k'
theorem AOps.nl (k : K .normal s σ) (h : draw = true → okOrder all acc.reverse = true := by exact fun _ => rfl) :
 AOps P all draw K [] acc s σ := A.nil h k
theorem AOps.dd {dst : Option Tmp} {op : Op} {j : Nat} {want : Bool} (k : AOps P all draw K rest (.pure :: acc) (putS dst (.tup []) s) σ) (h : yv all s j = some (.tup []) := by exact rfl) :
 AOps P all draw K (⟨dst, op, ty, pos, af, some (j, want)⟩ :: rest) acc s σ := A.dead h k
theorem AOps.ys {dst : Option Tmp} {op : Op} {j : Nat} {want b : Bool} (k : AOps P all draw K (⟨dst, op, ty, pos, af, none⟩ :: rest) acc s σ) (h : yv all s j = some (.bool b) := by exact rfl) (hb : b = want := by first | exact rfl | assumption) :
 AOps P all draw K (⟨dst, op, ty, pos, af, some (j, want)⟩ :: rest) acc s σ := A.yes h hb k
theorem AOps.no {dst : Option Tmp} {op : Op} {j : Nat} {want b : Bool} (k : AOps P all draw K rest (.pure :: acc) (putS dst (.tup []) s) σ) (h : yv all s j = some (.bool b) := by exact rfl) (hb : b = !want := by first | exact rfl | assumption) :
 AOps P all draw K (⟨dst, op, ty, pos, af, some (j, want)⟩ :: rest) acc s σ := A.no h hb k
theorem AOps.pv {op : Op} {v : AV} (k : AOps P all draw K rest (.pure :: acc) ((d, v) :: s) σ) (h : Av.pv P s op = some v := by exact rfl) :
 AOps P all draw K (⟨some d, op, ty, pos, af, none⟩ :: rest) acc s σ := A.pv h k
theorem AOps.is {T : TypeId} {x i : Operand} {xs : List UInt8} {ik : IntKind} {n : Int} {j : Nat} {y : UInt8} {ti : TI} (k : AOps P all draw K rest (.pure :: acc) ((d, .int .u8 (y.toNat : Int)) :: s) σ) (hT : ty? P T = some ti := by exact rfl) (hk : ti.kind = .string := by exact rfl) (hx : ev? s x = some (.str xs) := by exact rfl) (hi : ev? s i = some (.int ik n) := by exact rfl) (hj : n = (j : Int) := by exact rfl) (hy : xs[j]? = some y := by assumption) :
 AOps P all draw K (⟨some d, .index T x i, ty, pos, af, none⟩ :: rest) acc s σ := A.index_s hT hk hx hi hj hy k
theorem AOps.cl {dd : Option Tmp} {f : FuncId} {args : Array Operand} {tys : Array TypeId} {vals : List AV} {r : AV} (k : AOps P all draw K rest (.pure :: acc) (putS dd r s) σ) (ha : evsK s args.toList some = some vals := by exact rfl) (hp : PFn P f vals r := by assumption) :
    AOps P all draw K (⟨dd, .call ⟨.value (.func f), args, tys⟩, ty, pos, af, none⟩ :: rest) acc s σ := A.call ha hp (WeakL.refl _) k
theorem AOps.ck {dd : Option Tmp} {f : FuncId} {args : Array Operand} {tys : Array TypeId} {vals vals' : List AV} {r : AV} (k : AOps P all draw K rest (.pure :: acc) (putS dd r s) σ) (ha : evsK s args.toList some = some vals := by exact rfl) (hp : PFn P f vals' r := by assumption)
    (hw : WeakL vals vals' := by first | ((repeat' first | exact WeakL.refl _ | refine WeakL.cons (Weak.refl _) ?_ | refine WeakL.cons (Weak.no (WeakL.refl _)) ?_); done) | fail) :
    AOps P all draw K (⟨dd, .call ⟨.value (.func f), args, tys⟩, ty, pos, af, none⟩ :: rest) acc s σ := A.call ha hp hw k
theorem AOps.mf {fn : Fn} {first cap : Array Operand} {fs cs : List AV} (k : AOps P all draw K rest (.pure :: acc) ((d, .fn fn fs cs) :: s) σ) (hf : evsK s first.toList some = some fs := by exact rfl) (hc : evsK s cap.toList some = some cs := by exact rfl) :
    AOps P all draw K (⟨some d, .makeFunc fn first cap, ty, pos, af, none⟩ :: rest) acc s σ := A.makeFunc hf hc k
theorem AOps.cw {dd : Option Tmp} {x : Operand} {f : FuncId} {args : Array Operand} {tys : Array TypeId} {fs cs vals : List AV} {r : AV} (k : AOps P all draw K rest (.pure :: acc) (putS dd r s) σ) (hx : ev? s x = some (.fn (.func f) fs cs) := by exact rfl) (ha : evsK s args.toList some = some vals := by exact rfl)
    (hp : PFn P f (fs ++ vals ++ cs) r := by assumption) : AOps P all draw K (⟨dd, .call ⟨.value x, args, tys⟩, ty, pos, af, none⟩ :: rest) acc s σ := A.callw hx ha hp (WeakL.refl _) k
section
variable {N : Nat} {D : List Deferred}
theorem HCode.rg {id : Nat} {ops : Array Oper} (h : AOps P ops false K ops.toList [] s σ) (hN : dstOk N ops.toList = true := by exact rfl) :
 HCode P N D (.region id ops false) K s σ := HCode.region hN h
theorem HCode.rd {id : Nat} {ops : Array Oper} (h : AOps P ops true K ops.toList [] s σ) (hmix : P.follows .mixedOrders = true := by exact Lay.mix) (hN : dstOk N ops.toList = true := by exact rfl) :
 HCode P N D (.region id ops true) K s σ := HCode.region_draw hmix hN h
theorem HCode.ct {c : Operand} {x y : Code} (h : HCode P N D x K s σ) (hc : ev s c = .bool true := by exact rfl) :
 HCode P N D (.cond c x y) K s σ := HCode.cond_true hc h
theorem HCode.cf {c : Operand} {x y : Code} (h : HCode P N D y K s σ) (hc : ev s c = .bool false := by exact rfl) :
 HCode P N D (.cond c x y) K s σ := HCode.cond_false hc h
theorem HCode.cy {c : Operand} {x y : Code} {b : Bool} (h : HCode P N D x K s σ) (hc : ev s c = .bool b := by exact rfl) (hb : b = true := by assumption) :
 HCode P N D (.cond c x y) K s σ := HCode.cond_yes hc hb h
theorem HCode.cn {c : Operand} {x y : Code} {b : Bool} (h : HCode P N D y K s σ) (hc : ev s c = .bool b := by exact rfl) (hb : b = false := by assumption) :
 HCode P N D (.cond c x y) K s σ := HCode.cond_no hc hb h
end
theorem HCode.forK {N : Nat} {D : List Deferred} {c : Code} (N0 : Nat) (S : Nat → Slots) (Z : Nat → St) (J : Nat → Prop) (hs : Sub (S 0) s) (hz : Z 0 = σ) (hj : J 0)
    (round : ∀ k, k ≤ N0 → J k → HCode P N D c (thn (fun s' σ' => k < N0 ∧ Sub (S (k + 1)) s' ∧ belowS σ.B.length σ.T.length (S (k + 1)) = true ∧
      (belowB σ.B.length σ.T.length (σ'.B.take σ.B.length) && belowT σ.B.length σ.T.length (σ'.T.take σ.T.length)) = true ∧ (⟨σ'.B.take σ.B.length, σ'.T.take σ.T.length⟩ : St) = Z (k + 1) ∧ J (k + 1)) K) (S k) (Z k)) :
    HCode P N D (.loop c) K s σ := by
  refine HCode.loop (fun n s1 σ1 => ∃ k, n = N0 - k ∧ k ≤ N0 ∧ J k ∧ s1 = S k ∧ σ1 = Z k) (n := N0) hs ⟨0, rfl, Nat.zero_le _, hj, rfl, hz.symm⟩ ?_
  rintro n s1 σ1 ⟨k, rfl, hk, hJ, rfl, rfl⟩
  refine (round k hk hJ).mono ?_
  intro e s' σ' h
  cases e with
  | normal =>
    obtain ⟨h1, h2, h3, h4, h5, h6⟩ := h
    exact ⟨N0 - (k + 1), by omega, S (k + 1), h2, h3, h4, k + 1, rfl, h1, h6, rfl, h5⟩
  | exit id => exact h
  | goto l => exact h
  | ret => exact h
  | pan x => exact h
end
end Go.Av
