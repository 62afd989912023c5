/-
  The rules of calls, of parts of slices, of conversions.
-/
import Derived.Test.YtajddgpkflbnaaaAvAppend
set_option linter.unusedVariables false
namespace Go.Av
open Go
set_option linter.unusedSectionVars false
variable [Globals]

def evsK (s : Slots) : List Operand → (List AV → Option (List AV)) → Option (List AV)
  | [], k => k []
  | x :: xs, k => match ev? s x with
    | some v => evsK s xs fun r => k (v :: r)
    | none => none

theorem evsK_spec {s : Slots} : ∀ (xs : List Operand) (k : List AV → Option (List AV)) (r : List AV), evsK s xs k = some r → k (xs.map (ev s)) = some r
  | [], k, r, h => h
  | x :: xs, k, r, h => by
    unfold evsK at h
    cases e : ev? s x with
    | none => rw [e] at h; cases h
    | some v =>
      simp only [e] at h
      have := evsK_spec xs _ r h
      rw [List.map_cons, ev_of e]
      exact this

theorem repL_map {g : Gh} {w : World} {s : Slots} {a : Act} : ∀ xs : List Operand, (∀ x ∈ xs, Rep g w (ev s x) (a.eval x)) → RepL g w (xs.map (ev s)) (xs.map a.eval)
  | [], _ => rfl
  | x :: xs, h => ⟨_, _, rfl, h x (by simp), repL_map xs fun y hy => h y (by simp [hy])⟩

theorem run_callFunc {P : Program} {f : FuncId} (h : Callable P f) (args : Array Value) (w : World) : (callFunc f args).run P w = .ok (.enter f args) w := by
  obtain ⟨fn, h1, h2, h3⟩ := h
  unfold callFunc
  have h2' : ¬ fn.name = "runtime.NumGoroutine" := by simpa using h2
  have h3' : ¬ fn.body = none := by
    intro e
    rw [e] at h3
    cases h3
  simp [h1, h2', h3']

section rules
variable {P : Program} {all : Array Oper} {draw : Bool} {K : AX → Slots → St → Prop} {rest : List Oper} {acc : List Tag} {s : Slots} {σ : St}
variable {d : Option Tmp} {ty : TypeId} {pos : String} {af : Array Edge}

theorem run_call_func {f : FuncId} (h : Callable P f) {args : Array Operand} {tys : Array TypeId} (a : Act) (w : World) :
    (execOp a.eval ⟨d, .call ⟨.value (.func f), args, tys⟩, ty, pos, af, none⟩).run P w = .ok (.enter f (args.map a.eval)) w := by
  simp only [execOp, resolve, Act.eval, Deferred.ofValue, Sem.run_bind, Sem.run_pure, Result.andThen, invoke]
  simpa using run_callFunc h (args.map a.eval) w

/-- A call that takes plain data and hands back plain data. -/
theorem A.call {f : FuncId} {args : Array Operand} {tys : Array TypeId} {vals vals' : List AV} {r : AV} (ha : evsK s args.toList some = some vals) (hp : PFn P f vals' r) (hw : WeakL vals vals')
    (k : AOps P all draw K rest (.pure :: acc) (putS d r s) σ) : AOps P all draw K (⟨d, .call ⟨.value (.func f), args, tys⟩, ty, pos, af, none⟩ :: rest) acc s σ :=
  A.step (t := .pure) rfl ⟨rfl, fun τ => by
    intro g w a next Q hI ho hn
    have hv : args.toList.map (ev s) = vals := Option.some.inj (evsK_spec _ _ _ ha)
    have hl := repL_map (g := g) (w := w) (s := s) (a := a) args.toList (fun x hx => ho x (by simpa [Op.operands, Call.operands] using .inr (by simpa using hx)))
    rw [hv] at hl
    have hl2 : RepL ⟨[], [], g.im⟩ w vals' (args.map a.eval).toList := by
      rw [Array.toList_map]
      exact RepL.close (bx := g.bx) (tk := g.tk) _ _ hp.2.1 (hw _ _ _ hl)
    unfold Oper.wp
    rw [run_call_func hp.1 a w]
    show Calls P f (args.map a.eval) w _
    refine (hp.2.2 g.im w _ hI.imlt hI.gl hl2).mono ?_
    rintro e w' ⟨im', h1, h2, u, rfl, h3⟩
    obtain ⟨h4, h5⟩ := bare_ext hI h1 h2
    exact hn u w' _ h4 h5 (Rep.mono (g := ⟨[], [], im'⟩) (w := w') (g' := ⟨g.bx, g.tk, im'⟩) (w' := w') ⟨fun _ _ h => ⟨h, rfl⟩, fun _ _ h => by simp at h, fun _ _ h => by simp at h⟩ _ _ h3)⟩ k

/-- A result out of several. -/
theorem A.extract {d : Tmp} {x : Operand} {i : Nat} {vs : List AV} {v : AV} (hx : ev? s x = some (.tup vs)) (hv : vs[i]? = some v) (k : AOps P all draw K rest (.pure :: acc) ((d, v) :: s) σ) :
    AOps P all draw K (⟨some d, .extract x i, ty, pos, af, none⟩ :: rest) acc s σ :=
  A.step rfl (tpure fun g w a ho => by
    obtain ⟨us, e, hl⟩ := op1 hx (by simp [Op.operands]) ho
    obtain ⟨u, hu, hr⟩ := hl.get hv
    rw [Array.getElem?_toList] at hu
    exact ⟨u, by simp [execOp, e, Instr.extract, hu], hr⟩) k

/-- A function's value. -/
theorem A.makeFunc {d : Tmp} {fn : Fn} {first cap : Array Operand} {fs cs : List AV} (hf : evsK s first.toList some = some fs) (hc : evsK s cap.toList some = some cs) (k : AOps P all draw K rest (.pure :: acc) ((d, .fn fn fs cs) :: s) σ) :
    AOps P all draw K (⟨some d, .makeFunc fn first cap, ty, pos, af, none⟩ :: rest) acc s σ :=
  A.step rfl (tpure fun g w a ho => by
    have h1 : first.toList.map (ev s) = fs := Option.some.inj (evsK_spec _ _ _ hf)
    have h2 : cap.toList.map (ev s) = cs := Option.some.inj (evsK_spec _ _ _ hc)
    refine ⟨.func fn (first.map a.eval) (cap.map a.eval), by simp [execOp, Instr.makeFunc], ⟨_, _, rfl, ?_, ?_⟩⟩
    · rw [← h1, Array.toList_map]
      exact repL_map _ fun x hx => ho x (by simpa [Op.operands] using .inl (by simpa using hx))
    · rw [← h2, Array.toList_map]
      exact repL_map _ fun x hx => ho x (by simpa [Op.operands] using .inr (by simpa using hx))) k

theorem run_call_value {x : Operand} {f : FuncId} (h : Callable P f) {args : Array Operand} {tys : Array TypeId} (a : Act) (w : World) (first cap : Array Value) (hx : a.eval x = .func (.func f) first cap) :
    (execOp a.eval ⟨d, .call ⟨.value x, args, tys⟩, ty, pos, af, none⟩).run P w = .ok (.enter f (first ++ args.map a.eval ++ cap)) w := by
  simp only [execOp, resolve, hx, Deferred.ofValue, Sem.run_bind, Sem.run_pure, Result.andThen, invoke]
  exact run_callFunc h _ w

/-- A call through a function's value that has captured nothing. -/
theorem A.callv {x : Operand} {f : FuncId} {args : Array Operand} {tys : Array TypeId} {vals vals' : List AV} {r : AV} (hx : ev? s x = some (.fn (.func f) [] [])) (ha : evsK s args.toList some = some vals) (hp : PFn P f vals' r) (hw : WeakL vals vals')
    (k : AOps P all draw K rest (.pure :: acc) (putS d r s) σ) : AOps P all draw K (⟨d, .call ⟨.value x, args, tys⟩, ty, pos, af, none⟩ :: rest) acc s σ :=
  A.step (t := .pure) rfl ⟨rfl, fun τ => by
    intro g w a next Q hI ho hn
    have hv : args.toList.map (ev s) = vals := Option.some.inj (evsK_spec _ _ _ ha)
    obtain ⟨fs, cs, hfx, hf1, hf2⟩ := op1 hx (by simp [Op.operands, Call.operands]) ho
    have hfe : fs = #[] := by have := hf1.length; simpa using this
    have hce : cs = #[] := by have := hf2.length; simpa using this
    subst hfe; subst hce
    have hl := repL_map (g := g) (w := w) (s := s) (a := a) args.toList (fun x hx => ho x (by simpa [Op.operands, Call.operands] using .inr (by simpa using hx)))
    rw [hv] at hl
    have hl2 : RepL ⟨[], [], g.im⟩ w vals' (#[] ++ args.map a.eval ++ #[]).toList := by
      simp only [Array.empty_append, Array.append_empty, Array.toList_map]
      exact RepL.close (bx := g.bx) (tk := g.tk) _ _ hp.2.1 (hw _ _ _ hl)
    unfold Oper.wp
    rw [run_call_value hp.1 a w #[] #[] hfx]
    show Calls P f (#[] ++ args.map a.eval ++ #[]) w _
    refine (hp.2.2 g.im w _ hI.imlt hI.gl hl2).mono ?_
    rintro e w' ⟨im', h1, h2, u, rfl, h3⟩
    obtain ⟨h4, h5⟩ := bare_ext hI h1 h2
    exact hn u w' _ h4 h5 (Rep.mono (g := ⟨[], [], im'⟩) (w := w') (g' := ⟨g.bx, g.tk, im'⟩) (w' := w') ⟨fun _ _ h => ⟨h, rfl⟩, fun _ _ h => by simp at h, fun _ _ h => by simp at h⟩ _ _ h3)⟩ k

/-- A bound of a slice expression. -/
def bnd? (s : Slots) (o : Option Operand) (dflt : Int) : Option Int :=
  match o with
  | none => some dflt
  | some x => match ev? s x with
    | some (.int _ n) => some n
    | _ => none

theorem bnd_some {x : Operand} {n dflt : Int} (h : bnd? s (some x) dflt = some n) : ∃ k, ev? s x = some (.int k n) := by
  unfold bnd? at h
  cases e : ev? s x with
  | none => simp [e] at h
  | some v =>
    cases v with
    | int k m => simp [e] at h; subst h; exact ⟨k, rfl⟩
    | _ => simp [e] at h

/-- A part of a slice: less is known of the room behind it. -/
theorem A.slice [Lay P] {d : Tmp} {T : TypeId} {x : Operand} {lo hi : Option Operand} {xs : List AV} {tk : Tk} {nl nh : Int} {ti te : TI} (l h : Nat) (hT : ty? P T = some ti) (hk : ti.kind = .slice) (hE : ty? P ti.elem = some te)
    (hx : ev? s x = some (.slice xs tk)) (hl : bnd? s lo 0 = some nl) (hh : bnd? s hi xs.length = some nh) (el : nl = (l : Int)) (eh : nh = (h : Int)) (h1 : l ≤ h) (h2 : h ≤ xs.length) (hf : l = 0 ∨ fitsAll te.agg te.size xs = true)
    (k : AOps P all draw K rest (.pure :: acc) ((d, .slice ((xs.take h).drop l) .no) :: s) σ) : AOps P all draw K (⟨some d, .slice T x lo hi none, ty, pos, af, none⟩ :: rest) acc s σ :=
  A.step rfl (tpure fun g w a ho => by
    obtain ⟨p, cap, sz, Vs, e, c1, c2, c3, hlr, c5, c6⟩ := op1 hx (by simp [Op.operands]) ho
    obtain ⟨info, dd, z0, t1, t2, t3, t4, _⟩ := (ty_ok hT).ex
    have hd : ∃ e, dd = .slice e := by rw [hk] at t3; cases dd <;> first | exact ⟨_, rfl⟩ | cases t3
    obtain ⟨elm, rfl⟩ := hd
    have hel : elm = ti.elem := t4
    subst hel
    have hvl : Vs.length = xs.length := hlr.length
    have hcap : h ≤ cap := by omega
    have hrun : (execOp a.eval ⟨some d, .slice T x lo hi none, ty, pos, af, none⟩).run P w = .ok (.value (.slice (if cap = l then p else p.map (·.add (l * te.size))) (h - l) (cap - l))) w := by
      have hhi : ∀ y, hi = some y → (Instr.sliceBound (a.eval y) cap .sliceAcap).run P w = .ok h w := by
        intro y hy0
        subst hy0
        obtain ⟨ik, hy⟩ := bnd_some hh
        have hyv : a.eval y = .int ik nh := op1 hy (by simp [Op.operands]) ho
        have hb : 0 ≤ (h : Int) ∧ (h : Int) ≤ (cap : Int) := by omega
        simp only [Instr.sliceBound, hyv, asIntOf, eh, Sem.run_bind, Sem.run_pure, Result.andThen]
        rw [if_pos hb]
        simp
      have hlo : ∀ y, lo = some y → (Instr.sliceBound (a.eval y) h .sliceB).run P w = .ok l w := by
        intro y hy0
        subst hy0
        obtain ⟨ik, hy⟩ := bnd_some hl
        have hyv : a.eval y = .int ik nl := op1 hy (by simp [Op.operands]) ho
        have hb : 0 ≤ (l : Int) ∧ (l : Int) ≤ (h : Int) := by omega
        simp only [Instr.sliceBound, hyv, asIntOf, el, Sem.run_bind, Sem.run_pure, Result.andThen]
        rw [if_pos hb]
        simp
      have h0 : lo = none → l = 0 := by
        intro e0
        subst e0
        have : (0 : Int) = nl := Option.some.inj hl
        omega
      have h00 : hi = none → h = Vs.length := by
        intro e0
        subst e0
        have : (xs.length : Int) = nh := Option.some.inj hh
        omega
      cases lo with
      | none =>
        have hl0 := h0 rfl
        subst hl0
        cases hi with
        | none =>
          have hh0 := h00 rfl
          subst hh0
          simp [execOp, e, Instr.sliceAt, run_underlying t2, Result.andThen, Instr.slice, Instr.sliceBounds, run_sizeOf' hE]
        | some y =>
          have := hhi y rfl
          simp [execOp, e, Instr.sliceAt, run_underlying t2, Result.andThen, Instr.slice, Instr.sliceBounds, run_sizeOf' hE, this]
      | some z =>
        have hz := hlo z rfl
        cases hi with
        | none =>
          have hh0 := h00 rfl
          subst hh0
          simp [execOp, e, Instr.sliceAt, run_underlying t2, Result.andThen, Instr.slice, Instr.sliceBounds, run_sizeOf' hE, hz]
        | some y =>
          have := hhi y rfl
          simp [execOp, e, Instr.sliceAt, run_underlying t2, Result.andThen, Instr.slice, Instr.sliceBounds, run_sizeOf' hE, hz, this]
    refine ⟨_, hrun, ?_⟩
    have hVs : ((Vs.take h).drop l).length = h - l := by simp; omega
    have hsz : l * te.size = l * sz ∨ (Vs.take h).drop l = [] := by
      rcases hf with rfl | hf
      · left; simp
      · cases Vs with
        | nil => right; simp
        | cons V Vs' =>
          left
          have hV := (fitsAll_spec hf hlr V (by simp)).1
          cases p with
          | none => have := (c5 rfl).1; cases this
          | some q => rw [← ((c6 q rfl).2 0 V rfl).1, hV]
    refine ⟨_, cap - l, sz, (Vs.take h).drop l, by rw [hVs], by rw [hVs]; omega, by omega, trivial, (hlr.take h).drop l, ?_, ?_⟩
    · intro hn
      have hp : p = none := by
        cases p with
        | none => rfl
        | some q => by_cases hq : cap = l <;> simp [hq] at hn
      have hV0 := (c5 hp).1
      have hc0 := (c5 hp).2
      subst hV0
      exact ⟨by simp, by omega⟩
    · intro q hq
      cases p with
      | none => simp at hq
      | some q0 =>
        obtain ⟨m1, m2⟩ := c6 q0 rfl
        by_cases hcl : cap = l
        · rw [if_pos hcl] at hq
          cases hq
          have hnil : (Vs.take h).drop l = [] := by apply List.eq_nil_of_length_eq_zero; rw [hVs]; omega
          rw [hnil]
          exact ⟨.inr rfl, fun i V hi => by simp at hi⟩
        · rw [if_neg hcl] at hq
          simp only [Option.map_some, Option.some.injEq] at hq
          rcases hsz with hsz | hnil
          · rw [hsz] at hq
            rcases m1 with m1 | m1
            · obtain ⟨qb, qo, qs⟩ := q0
              cases (show qs = none from m1)
              rw [addr_add] at hq
              subst hq
              refine ⟨.inl rfl, fun i V hi => ?_⟩
              rw [List.getElem?_drop] at hi
              have hi' : Vs[l + i]? = some V := by
                rw [List.getElem?_take] at hi
                split at hi
                · exact hi
                · cases hi
              obtain ⟨n1, n2⟩ := m2 (l + i) V hi'
              refine ⟨n1, ?_⟩
              have : qo + (l + i) * sz = qo + l * sz + i * sz := by rw [Nat.add_mul]; omega
              rw [← this]
              exact n2
            · subst m1
              exact ⟨.inr (by simp), fun i V hi => by simp at hi⟩
          · rw [hnil]
            exact ⟨.inr rfl, fun i V hi => by simp at hi⟩) k
end rules

/-! The end of a function. -/
theorem Weak.eq {x y : AV} (h : x = y) : Weak x y := h ▸ Weak.refl x
theorem Fin.ret1 {t : Nat} {s : Slots} {v r : AV} (h : lk? s t = some v) (hw : Weak v r) : ∃ v', AEnd.ret (resAV s [t]) = .ret v' ∧ Weak v' r :=
  ⟨_, rfl, by rw [show resAV s [t] = v from lk_of h]; exact hw⟩
end Go.Av
