/-
  Boxes that are never written again, calls of functions that have captured data, comparison with nil.
-/
import Derived.Test.YtajddgpkflbnaaaAvMake
set_option linter.unusedVariables false
namespace Go.Av
open Go
set_option linter.unusedSectionVars false
variable [Globals]

section rules
variable {P : Program} [Lay P] {all : Array Oper} {draw : Bool} {K : AX → Slots → St → Prop} {rest : List Oper} {acc : List Tag} {s : Slots} {σ : St}
variable {d : Tmp} {ty : TypeId} {pos : String} {af : Array Edge}

omit [Lay P] in
/-- A new variable that is never written again: data. -/
theorem A.box_r {T : TypeId} {x : Operand} {v : AV} (hx : ev? s x = some v) (hc : cellsK v (fun _ => some ()) = some ())
    (k : AOps P all draw K rest (.pure :: acc) ((d, .rptr v) :: s) σ) : AOps P all draw K (⟨some d, .box T x, ty, pos, af, none⟩ :: rest) acc s σ :=
  A.step (t := .pure) rfl ⟨rfl, fun τ => by
    intro g w a next Q hI ho hn
    have h1 := op1 hx (by simp [Op.operands]) ho
    obtain ⟨cs, _, h3, h4⟩ := cellsK_spec hc h1
    obtain ⟨n1, n2⟩ := new_data hI (a.eval x).cells T (a.eval x).cells.size (Nat.le_refl _)
    unfold Oper.wp
    simp only [execOp, Instr.box, newVar, newRow, newObj, Sem.run_bind, Result.andThen, Sem.run]
    refine hn _ _ _ n1 n2 ⟨w.heap.size, 0, a.eval x, rfl, fun j u hj => ⟨.inr ⟨rfl, ?_⟩, ?_, h4 u ?_⟩, Rep.mono n1.le _ _ h1⟩
    · have := (Array.getElem?_eq_some_iff.1 hj).1; omega
    · show (pushW w (.cells (a.eval x).cells T)).cell? ⟨w.heap.size, 0 + j, none⟩ = some u
      rw [Nat.zero_add, new_data_cell]
      exact hj
    · exact List.mem_of_getElem? (by rw [Array.getElem?_toList]; exact hj)⟩ k

omit [Lay P] in
/-- A call through a function's value that has captured data. -/
theorem A.callw {d : Option Tmp} {x : Operand} {f : FuncId} {args : Array Operand} {tys : Array TypeId} {fs cs vals vals' : List AV} {r : AV} (hx : ev? s x = some (.fn (.func f) fs cs)) (ha : evsK s args.toList some = some vals) (hp : PFn P f vals' r) (hw : WeakL (fs ++ vals ++ cs) vals')
    (k : AOps P all draw K rest (.pure :: acc) (putS d r s) σ) : AOps P all draw K (⟨d, .call ⟨.value x, args, tys⟩, ty, pos, af, none⟩ :: rest) acc s σ :=
  A.step (t := .pure) rfl ⟨rfl, fun τ => by
    intro g w a next Q hI ho hn
    have hv : args.toList.map (ev s) = vals := Option.some.inj (evsK_spec _ _ _ ha)
    obtain ⟨vs, us, hfx, hf1, hf2⟩ := op1 hx (by simp [Op.operands, Call.operands]) ho
    have hl := repL_map (g := g) (w := w) (s := s) (a := a) args.toList (fun x hx => ho x (by simpa [Op.operands, Call.operands] using .inr (by simpa using hx)))
    rw [hv] at hl
    have hl2 : RepL ⟨[], [], g.im⟩ w vals' (vs ++ args.map a.eval ++ us).toList := by
      simp only [Array.toList_append, Array.toList_map]
      exact RepL.close (bx := g.bx) (tk := g.tk) _ _ hp.2.1 (hw _ _ _ ((hf1.append hl).append hf2))
    unfold Oper.wp
    rw [run_call_value hp.1 a w vs us hfx]
    show Calls P f (vs ++ args.map a.eval ++ us) w _
    refine (hp.2.2 g.im w _ hI.imlt hI.gl hl2).mono ?_
    rintro e w' ⟨im', h1, h2, u, rfl, h3⟩
    obtain ⟨h4, h5⟩ := bare_ext hI h1 h2
    exact hn u w' _ h4 h5 (Rep.mono (g := ⟨[], [], im'⟩) (w := w') (g' := ⟨g.bx, g.tk, im'⟩) (w' := w') ⟨fun _ _ h => ⟨h, rfl⟩, fun _ _ h => by simp at h, fun _ _ h => by simp at h⟩ _ _ h3)⟩ k

omit [Lay P] in
theorem run_eq_nil {T el : TypeId} (h : P.underlying T = some (.slice el)) (p : Option Addr) (m c n : Nat) (w : World) : (Op.equalIn (n + 1) T (.slice p m c) (.slice none 0 0)).run P w = .ok p.isNone w := by
  cases p <;> simp [Op.equalIn, run_underlying h, Result.andThen]
/-- Is a slice nil? -/
theorem A.isnil {T U : TypeId} {x : Operand} {xs : List AV} {ti : TI} (hT : ty? P T = some ti) (hk : ti.kind = .slice) (hx : ev? s x = some (.slice xs .nil))
    (k : AOps P all draw K rest (.pure :: acc) ((d, .bool true) :: s) σ) : AOps P all draw K (⟨some d, .binOp .eql T x (.const (.slice none 0 0)) U, ty, pos, af, none⟩ :: rest) acc s σ :=
  A.step rfl (tpure fun g w a ho => by
    obtain ⟨p, cap, sz, Vs, e, c1, c2, ⟨c3, c4⟩, _⟩ := op1 hx (by simp [Op.operands]) ho
    obtain ⟨info, dd, z0, t1, t2, t3, t4, _⟩ := (ty_ok hT).ex
    have hd : ∃ e, dd = .slice e := by rw [hk] at t3; cases dd <;> first | exact ⟨_, rfl⟩ | cases t3
    obtain ⟨elm, rfl⟩ := hd
    subst c3
    have h3 : (Op.equal T (.slice none Vs.length cap) (.slice none 0 0)).run P w = .ok true w := run_eq_nil t2 none Vs.length cap 9999 w
    have ec : a.eval (.const (.slice none 0 0)) = .slice none 0 0 := rfl
    exact ⟨.bool true, by simp [execOp, e, ec, eqGuard, Go.binOp, h3, Result.andThen], rfl⟩) k
theorem A.notnil {T U : TypeId} {x : Operand} {xs : List AV} {ti : TI} (hT : ty? P T = some ti) (hk : ti.kind = .slice) (hx : ev? s x = some (.slice xs .nn))
    (k : AOps P all draw K rest (.pure :: acc) ((d, .bool false) :: s) σ) : AOps P all draw K (⟨some d, .binOp .eql T x (.const (.slice none 0 0)) U, ty, pos, af, none⟩ :: rest) acc s σ :=
  A.step rfl (tpure fun g w a ho => by
    obtain ⟨p, cap, sz, Vs, e, c1, c2, c3, _⟩ := op1 hx (by simp [Op.operands]) ho
    obtain ⟨info, dd, z0, t1, t2, t3, t4, _⟩ := (ty_ok hT).ex
    have hd : ∃ e, dd = .slice e := by rw [hk] at t3; cases dd <;> first | exact ⟨_, rfl⟩ | cases t3
    obtain ⟨elm, rfl⟩ := hd
    obtain ⟨q, hq⟩ : ∃ q, p = some q := by cases p with | none => exact absurd rfl c3 | some q => exact ⟨q, rfl⟩
    subst hq
    have h3 : (Op.equal T (.slice (some q) Vs.length cap) (.slice none 0 0)).run P w = .ok false w := run_eq_nil t2 (some q) Vs.length cap 9999 w
    have ec : a.eval (.const (.slice none 0 0)) = .slice none 0 0 := rfl
    exact ⟨.bool false, by simp [execOp, e, ec, eqGuard, Go.binOp, h3, Result.andThen], rfl⟩) k
end rules

/-- Ahead of a piece of code: a slice is nil, or it is not. -/
theorem HCode.split_nil {P : Program} {N : Nat} {D : List Deferred} {c : Code} {K : AX → Slots → St → Prop} {s : Slots} {σ : St} (tm : Nat) {xs : List AV} {t : Tk} (hx : lk? s tm = some (.slice xs t))
    (h1 : xs = [] → HCode P N D c K ((tm, .slice xs .nil) :: s) σ) (h0 : HCode P N D c K ((tm, .slice xs .nn) :: s) σ) : HCode P N D c K s σ := fun g w a hi hs ha hd => by
  have hr := hs tm
  rw [lk_of hx] at hr
  have key : ∀ y, Rep g w y (a.tmps.getD tm undef) → SRep g w ((tm, y) :: s) a.tmps := fun y hy u => by
    unfold lk
    cases e : Nat.beq tm u with
    | true => have := Nat.eq_of_beq_eq_true e; subst this; exact hy
    | false => exact hs u
  obtain ⟨p, cap, sz, Vs, e, c1, c2, c3, c4, c5, c6⟩ := hr
  cases p with
  | none =>
    obtain ⟨rfl, rfl⟩ := c5 rfl
    have hxs : xs = [] := List.eq_nil_of_length_eq_zero c4.length.symm
    exact h1 hxs g w a hi (key _ ⟨none, 0, sz, [], e, c1, c2, ⟨rfl, rfl⟩, c4, c5, c6⟩) ha hd
  | some q => exact h0 g w a hi (key _ ⟨some q, cap, sz, Vs, e, c1, c2, (fun h => by cases h), c4, c5, c6⟩) ha hd
end Go.Av
