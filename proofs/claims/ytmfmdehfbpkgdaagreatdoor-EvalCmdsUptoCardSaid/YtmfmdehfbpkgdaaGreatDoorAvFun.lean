/-
  The rules of calls, of parts of slices, of conversions.
-/
import Derived.Laws.MakeOwn
import Derived.Test.YtmfmdehfbpkgdaaGreatDoorAvAppend
set_option linter.unusedVariables false
namespace Go.Av
open Go
set_option linter.unusedSectionVars false
variable [Globals]
def evsK (s : Slots) : List Operand → (List AV → Option (List AV)) → Option (List AV)
  | [], k => k []
  | x :: xs, k => match ev? s x with
    | some v => evsK s xs fun r => k (v :: r)
    | none => none
theorem evsK_spec {s : Slots} : ∀ (xs : List Operand) (k : List AV → Option (List AV)) (r : List AV), evsK s xs k = some r → k (xs.map (ev s)) = some r
  | [], k, r, h => h
  | x :: xs, k, r, h => by
    unfold evsK at h
    cases e : ev? s x with
    | none => rw [e] at h; cases h
    | some v =>
      simp only [e] at h
      have := evsK_spec xs _ r h
      rw [List.map_cons, ev_of e]
      exact this
theorem repL_map {g : Gh} {w : World} {s : Slots} {a : Act} : ∀ xs : List Operand, (∀ x ∈ xs, Rep g w (ev s x) (a.eval x)) → RepL g w (xs.map (ev s)) (xs.map a.eval)
  | [], _ => rfl
  | x :: xs, h => ⟨_, _, rfl, h x (by simp), repL_map xs fun y hy => h y (by simp [hy])⟩
theorem run_callFunc {P : Program} {f : FuncId} (h : Callable P f) (args : Array Value) (w : World) : (callFunc f args).run P w = .ok (.enter f args) w := by
  obtain ⟨fn, h1, h2, h3⟩ := h
  unfold callFunc
  have h2' : ¬ fn.name = "runtime.NumGoroutine" := by simpa using h2
  have h3' : ¬ fn.body = none := by
    intro e
    rw [e] at h3
    cases h3
  simp [h1, h2', h3']
section rules
variable {P : Program} {all : Array Oper} {draw : Bool} {K : AX → Slots → St → Prop} {rest : List Oper} {acc : List Tag} {s : Slots} {σ : St}
variable {d : Option Tmp} {ty : TypeId} {pos : String} {af : Array Edge}
theorem run_call_func {f : FuncId} (h : Callable P f) {args : Array Operand} {tys : Array TypeId} (a : Act) (w : World) :
    (execOp a.eval ⟨d, .call ⟨.value (.func f), args, tys⟩, ty, pos, af, none⟩).run P w = .ok (.enter f (args.map a.eval)) w := by
  simp only [execOp, resolve, Act.eval, Deferred.ofValue, Sem.run_bind, Sem.run_pure, Result.andThen, invoke]
  simpa using run_callFunc h (args.map a.eval) w
theorem A.call {f : FuncId} {args : Array Operand} {tys : Array TypeId} {vals vals' : List AV} {r : AV} (ha : evsK s args.toList some = some vals) (hp : PFn P f vals' r) (hw : WeakL vals vals')
    (k : AOps P all draw K rest (.pure :: acc) (putS d r s) σ) : AOps P all draw K (⟨d, .call ⟨.value (.func f), args, tys⟩, ty, pos, af, none⟩ :: rest) acc s σ :=
  A.step (t := .pure) rfl ⟨rfl, fun τ => by
    intro g w a next Q hI ho hn
    have hv : args.toList.map (ev s) = vals := Option.some.inj (evsK_spec _ _ _ ha)
    have hl := repL_map (g := g) (w := w) (s := s) (a := a) args.toList (fun x hx => ho x (by simpa [Op.operands, Call.operands] using .inr (by simpa using hx)))
    rw [hv] at hl
    have hl2 : RepL ⟨[], [], g.im⟩ w vals' (args.map a.eval).toList := by
      rw [Array.toList_map]
      exact RepL.close (bx := g.bx) (tk := g.tk) _ _ hp.2.1 (hw _ _ _ hl)
    unfold Oper.wp
    rw [run_call_func hp.1 a w]
    show Calls P f (args.map a.eval) w _
    refine (hp.2.2 g.im w _ hI.imlt hI.gl hl2).mono ?_
    rintro e w' ⟨im', h1, h2, u, rfl, h3⟩
    obtain ⟨h4, h5⟩ := bare_ext hI h1 h2
    exact hn u w' _ h4 h5 (Rep.mono (g := ⟨[], [], im'⟩) (w := w') (g' := ⟨g.bx, g.tk, im'⟩) (w' := w') ⟨fun _ _ h => ⟨h, rfl⟩, fun _ _ h => by simp at h, fun _ _ h => by simp at h⟩ _ _ h3)⟩ k
theorem A.extract {d : Tmp} {x : Operand} {i : Nat} {vs : List AV} {v : AV} (hx : ev? s x = some (.tup vs)) (hv : vs[i]? = some v) (k : AOps P all draw K rest (.pure :: acc) ((d, v) :: s) σ) :
    AOps P all draw K (⟨some d, .extract x i, ty, pos, af, none⟩ :: rest) acc s σ :=
  A.step rfl (tpure fun g w a ho => by
    obtain ⟨us, e, hl⟩ := op1 hx (by simp [Op.operands]) ho
    obtain ⟨u, hu, hr⟩ := hl.get hv
    rw [Array.getElem?_toList] at hu
    exact ⟨u, by simp [execOp, e, Instr.extract, hu], hr⟩) k
theorem A.makeFunc {d : Tmp} {fn : Fn} {first cap : Array Operand} {fs cs : List AV} (hf : evsK s first.toList some = some fs) (hc : evsK s cap.toList some = some cs) (k : AOps P all draw K rest (.pure :: acc) ((d, .fn fn fs cs) :: s) σ) :
    AOps P all draw K (⟨some d, .makeFunc fn first cap, ty, pos, af, none⟩ :: rest) acc s σ :=
  A.step rfl (tpure fun g w a ho => by
    have h1 : first.toList.map (ev s) = fs := Option.some.inj (evsK_spec _ _ _ hf)
    have h2 : cap.toList.map (ev s) = cs := Option.some.inj (evsK_spec _ _ _ hc)
    refine ⟨.func fn (first.map a.eval) (cap.map a.eval), by simp [execOp, Instr.makeFunc], ⟨_, _, rfl, ?_, ?_⟩⟩
    · rw [← h1, Array.toList_map]
      exact repL_map _ fun x hx => ho x (by simpa [Op.operands] using .inl (by simpa using hx))
    · rw [← h2, Array.toList_map]
      exact repL_map _ fun x hx => ho x (by simpa [Op.operands] using .inr (by simpa using hx))) k
theorem run_call_value {x : Operand} {f : FuncId} (h : Callable P f) {args : Array Operand} {tys : Array TypeId} (a : Act) (w : World) (first cap : Array Value) (hx : a.eval x = .func (.func f) first cap) :
    (execOp a.eval ⟨d, .call ⟨.value x, args, tys⟩, ty, pos, af, none⟩).run P w = .ok (.enter f (first ++ args.map a.eval ++ cap)) w := by
  simp only [execOp, resolve, hx, Deferred.ofValue, Sem.run_bind, Sem.run_pure, Result.andThen, invoke]
  exact run_callFunc h _ w
def bnd? (s : Slots) (o : Option Operand) (dflt : Int) : Option Int :=
  match o with
  | none => some dflt
  | some x => match ev? s x with
    | some (.int _ n) => some n
    | _ => none
theorem bnd_some {x : Operand} {n dflt : Int} (h : bnd? s (some x) dflt = some n) : ∃ k, ev? s x = some (.int k n) := by
  unfold bnd? at h
  cases e : ev? s x with
  | none => simp [e] at h
  | some v =>
    cases v with
    | int k m => simp [e] at h; subst h; exact ⟨k, rfl⟩
    | _ => simp [e] at h
end rules
theorem Weak.eq {x y : AV} (h : x = y) : Weak x y := h ▸ Weak.refl x
theorem Fin.ret1 {t : Nat} {s : Slots} {v r : AV} (h : lk? s t = some v) (hw : Weak v r) : ∃ v', AEnd.ret (resAV s [t]) = .ret v' ∧ Weak v' r :=
  ⟨_, rfl, by rw [show resAV s [t] = v from lk_of h]; exact hw⟩
end Go.Av
set_option linter.unusedVariables false
namespace Go.Av
open Go
set_option linter.unusedSectionVars false
variable [Globals]
def res? (P : Program) [Lay P] (s : Slots) (σ : St) : ResultVar → Option AV
  | .tmp t => some (lk s t)
  | .cell t T => match lk? s t, ty? P T with
    | some (.ptr i off), some ti => match σ.B[i]? with
      | some (.cells cs) => cut ti.agg ti.size off cs
      | _ => none
    | _, _ => none
def resK? (P : Program) [Lay P] (s : Slots) (σ : St) : List ResultVar → (List AV → Option AV) → Option AV
  | [], k => k []
  | r :: rs, k => match res? P s σ r with
    | some v => resK? P s σ rs fun l => k (v :: l)
    | none => none
def packAV : List AV → Option AV
  | [v] => some v
  | vs => some (.tup vs)
def packV (vs : List Value) : Value := match vs with
  | [v] => v
  | vs => .tuple vs.toArray
section
variable {P : Program} [Lay P]
def resOf (tmps : Array Value) : ResultVar → Sem Value
  | .tmp t => pure (tmps.getD t undef)
  | .cell a t => do loadVar t (← asAddr (tmps.getD a undef))
theorem res_spec {g : Gh} {w : World} {s : Slots} {σ : St} {tmps : Array Value} (hi : Inv g σ w) (hs : SRep g w s tmps) {r : ResultVar} {v : AV} (h : res? P s σ r = some v) :
    ∃ V, Rep g w v V ∧ (resOf tmps r).run P w = .ok V w := by
  cases r with
  | tmp t =>
    cases (Option.some.inj h)
    exact ⟨_, hs t, rfl⟩
  | cell t T =>
    simp only [res?] at h
    split at h
    case h_2 => cases h
    case h_1 i off ti e1 e2 =>
    split at h
    case h_2 => cases h
    case h_1 cs e3 =>
    have h1 := hs t
    rw [lk_of e1] at h1
    obtain ⟨b, hb, e⟩ := h1
    obtain ⟨V, hV, hrun⟩ := load_obj e2 hi hb e3 h
    refine ⟨V, hV, ?_⟩
    simp only [resOf, e, asAddr, Sem.run_bind, Sem.run_pure, Result.andThen]
    exact hrun
theorem resK_spec {g : Gh} {w : World} {s : Slots} {σ : St} {tmps : Array Value} (hi : Inv g σ w) (hs : SRep g w s tmps) : ∀ (rs : List ResultVar) (k : List AV → Option AV) (v : AV), resK? P s σ rs k = some v →
    ∃ (vs : List AV) (Vs : List Value), k vs = some v ∧ RepL g w vs Vs ∧ (rs.mapM (resOf tmps)).run P w = .ok Vs w
  | [], k, v, h => ⟨[], [], h, rfl, rfl⟩
  | r :: rs, k, v, h => by
    unfold resK? at h
    split at h
    case h_2 => cases h
    case h_1 x e =>
    obtain ⟨V, h1, h2⟩ := res_spec hi hs e
    obtain ⟨vs, Vs, h3, h4, h5⟩ := resK_spec hi hs rs _ v h
    refine ⟨x :: vs, V :: Vs, h3, ⟨V, Vs, rfl, h1, h4⟩, ?_⟩
    rw [List.mapM_cons]
    simp only [Sem.run_bind, h2, h5, Result.andThen, Sem.run_pure]
omit [Lay P] in
theorem run_resultsR {fn : Func} {rs : List ResultVar} {tmps : Array Value} {w : World} {Vs : List Value} (h : fn.results = rs.toArray) (hr : (rs.mapM (resOf tmps)).run P w = .ok Vs w) : (results fn tmps).run P w = .ok (packV Vs) w := by
  have e : results fn tmps = (fn.results.mapM (resOf tmps) >>= fun vs => pure (if h : vs.size = 1 then vs[0] else .tuple vs)) := rfl
  rw [e, h, List.mapM_toArray]
  simp only [Sem.run_bind, map_eq_pure_bind, hr, Result.andThen, Sem.run_pure]
  congr 1
  unfold packV
  match Vs with
  | [] => simp
  | [v] => simp
  | a :: b :: l => simp
def finR (P : Program) [Lay P] (rs : List ResultVar) (post : AEnd → St → Prop) : AX → Slots → St → Prop
  | .normal => fun s σ => ∃ v, resK? P s σ rs packAV = some v ∧ post (.ret v) σ
  | .ret => fun s σ => ∃ v, resK? P s σ rs packAV = some v ∧ post (.ret v) σ
  | .pan x => fun _ σ => post (.pan x) σ
  | _ => fun _ _ => False
theorem packAV_spec {g : Gh} {w : World} {vs : List AV} {Vs : List Value} {v : AV} (h : packAV vs = some v) (hl : RepL g w vs Vs) : Rep g w v (packV Vs) := by
  match vs, hl, h with
  | [], hl, h => cases h; rw [show Vs = [] from hl]; exact ⟨#[], rfl, rfl⟩
  | [x], ⟨u, r, e, h1, h2⟩, h => cases h; subst e; rw [show r = [] from h2]; exact h1
  | x :: y :: l, ⟨u, r, e, h1, ⟨u', r', e', h2, h3⟩⟩, h => cases h; subst e'; subst e; exact ⟨_, rfl, ⟨u, _, rfl, h1, ⟨u', r', rfl, h2, h3⟩⟩⟩
theorem AFn.enterR {f : FuncId} {fn : Func} {c : Code} {args : List AV} {σ : St} {post : AEnd → St → Prop} (rs : List ResultVar) {N : Nat} (hf : P.funcs[f]? = some fn) (hb : fn.body = some c) (hN : fn.ntmps = N)
    (hname : (fn.name == "runtime.NumGoroutine") = false) (hargs : Nat.ble args.length N = true) (hres : fn.results = rs.toArray)
    (h : HCode P N [] c (finR P rs post) (argSlots 0 args) σ) : AFn P f args σ post := by
  refine ⟨⟨fn, hf, hname, by rw [hb]; rfl⟩, fun g w vals hi hl => ?_⟩
  have hargs' : args.length ≤ N := Nat.le_of_ble_eq_true hargs
  have hlen : vals.size = args.length := by simpa using hl.length
  refine calls_of_wp hf hb (wp_mono (h g w _ hi (fun t => ?_) ?_ rfl) ?_)
  · rw [lk_argSlots]
    simp only [Nat.not_lt_zero, if_false, Nat.sub_zero]
    cases e : args[t]? with
    | none => trivial
    | some v =>
      obtain ⟨u, h1, h2⟩ := hl.get e
      have : (vals ++ Array.replicate (fn.ntmps - vals.size) undef).getD t undef = u := by
        rw [Array.getElem?_toList] at h1
        have hlt := (Array.getElem?_eq_some_iff.1 h1).1
        simp only [Array.getD_eq_getD_getElem?]
        rw [Array.getElem?_append_left hlt, h1]
        rfl
      rw [this]
      exact h2
  · simp; omega
  · rintro e a w' ⟨ae, s', σ', g', h1, h2, h3, h4, h5, h6, h7⟩
    cases ae with
    | normal =>
      cases (show e = .normal from h1)
      obtain ⟨v, e1, e2⟩ := h7
      obtain ⟨vs, Vs, k1, k2, k3⟩ := resK_spec h5 h6 rs _ v e1
      exact ⟨h3, _, run_resultsR hres k3, g', σ', .ret _, h4, h5, ⟨_, rfl, packAV_spec k1 k2⟩, e2⟩
    | ret =>
      cases (show e = .ret from h1)
      obtain ⟨v, e1, e2⟩ := h7
      obtain ⟨vs, Vs, k1, k2, k3⟩ := resK_spec h5 h6 rs _ v e1
      exact ⟨h3, _, run_resultsR hres k3, g', σ', .ret _, h4, h5, ⟨_, rfl, packAV_spec k1 k2⟩, e2⟩
    | exit id => exact h7.elim
    | goto l => exact h7.elim
    | pan x => obtain ⟨u, rfl, hu⟩ := h1; exact ⟨h3, g', σ', .pan x, h4, h5, ⟨u, rfl, hu⟩, h7⟩
end
theorem FinR.ret1 {P : Program} [Lay P] {rs : List ResultVar} {s : Slots} {σ : St} {v r : AV} (h : resK? P s σ rs packAV = some v) (hw : Weak v r) : ∃ v1, resK? P s σ rs packAV = some v1 ∧ ∃ v', AEnd.ret v1 = .ret v' ∧ Weak v' r :=
  ⟨v, h, v, rfl, hw⟩
end Go.Av
set_option linter.unusedVariables false
namespace Go.Av
open Go
set_option linter.unusedSectionVars false
variable [Globals]
section rules
variable {P : Program} [Lay P] {all : Array Oper} {draw : Bool} {K : AX → Slots → St → Prop} {rest : List Oper} {acc : List Tag} {s : Slots} {σ : St}
variable {d : Tmp} {ty : TypeId} {pos : String} {af : Array Edge}
theorem A.make0 {T : TypeId} {x y : Operand} {kl kc : IntKind} {m : Int} {n k : Nat} {ti te : TI} {T' : List Tok} (hT : ty? P T = some ti) (hk : ti.kind = .slice) (hE : ty? P ti.elem = some te)
    (hx : ev? s x = some (.int kl 0)) (hy : ev? s y = some (.int kc m)) (hm : m = (n : Int)) (hb : te.bytes * n ≤ 281474976710656) (hb' : n ≤ 9223372036854775807) (hkk : smallLen σ.T = some k) (hT' : snocK σ.T (.len 0) some = some T')
    (kk : AOps P all draw K rest (.tk :: acc) ((d, .slice [] (.own k te.size)) :: s) ⟨σ.B, T'⟩) : AOps P all draw K (⟨some d, .makeSlice T x y, ty, pos, af, none⟩ :: rest) acc s σ :=
  A.step (t := .tk) (σ' := ⟨σ.B, T'⟩) rfl ⟨rfl, fun B => by
    intro g w a next Q hI ho hn'
    have h1 : a.eval x = .int kl 0 := op1 hx (by simp [Op.operands]) ho
    have h2 : a.eval y = .int kc m := op1 hy (by simp [Op.operands]) ho
    obtain ⟨info, dd, z0, t1, t2, t3, t4, _⟩ := (ty_ok hT).ex
    have hd : ∃ e, dd = .slice e := by rw [hk] at t3; cases dd <;> first | exact ⟨_, rfl⟩ | cases t3
    obtain ⟨el, rfl⟩ := hd
    have hel : el = ti.elem := t4
    subst hel
    obtain ⟨ie, de, ze, u1, u2, u3, u4, u5, u6, u7, u8, u9, u10, u11, u12, u13⟩ := (ty_ok hE).ex
    have hkl : σ.T.length = k := smallLen_spec hkk
    have hTe : σ.T ++ [Tok.len 0] = T' := Option.some.inj (snocK_spec _ _ _ _ hT')
    subst hm
    have hrun := run_make (P := P) w T ti.elem ie ze t2 u1 u8 kl kc 0 (n : Int) (Int.le_refl _) (by omega) (by rw [u7, ← Int.natCast_mul]; omega) (by omega)
    have hnn : ((n : Int)).toNat = n := by simp
    rw [hnn] at hrun
    have hsz : n * te.size = (madeCells ze.cells (n * ie.size)).size := by rw [u6]; simp [madeCells]
    have hgl : g.tk.length = σ.T.length := hI.lenT
    obtain ⟨g', e1, e2, e3, e4⟩ := grow_new (σ := ⟨B, σ.T⟩) hI (madeCells ze.cells (n * ie.size)) ti.elem (k := σ.T.length) (n := 0) (sz := te.size) (cap := n) hsz (Nat.zero_le _) (old := none) (by rw [← hgl]; simp) (by omega) (fun r h => by cases h) (T' := T')
      (.inr ⟨rfl, hTe.symm⟩)
    unfold Oper.wp
    have hrun' : (execOp a.eval ⟨some d, .makeSlice T x y, ty, pos, af, none⟩).run P w = .ok (.value (.slice (some ⟨w.heap.size, 0, none⟩) 0 n)) (pushW w (.cells (madeCells ze.cells (n * ie.size)) ti.elem)) := by
      simp only [execOp, h1, h2, Sem.run_bind, hrun, Result.andThen, Sem.run_pure]
      rfl
    rw [hrun']
    refine hn' _ _ g' e2 e3 ⟨some ⟨w.heap.size, 0, none⟩, n, te.size, [], rfl, Nat.zero_le _, ?_, ?_, rfl, (fun h => by cases h), fun p hp => ⟨.inr rfl, fun i V hi => by simp at hi⟩⟩
    · unfold maxLen; omega
    · rw [← hkl]
      exact ⟨.inr rfl, _, e1.get, rfl, Nat.zero_le _, fun _ => ⟨rfl, rfl, .inr fun p hp => by cases hp; rfl⟩⟩⟩ kk
end rules
theorem WeakL.eq {xs ys : List AV} (h : xs = ys) : WeakL xs ys := h ▸ WeakL.refl xs
section rules
variable {P : Program} [Lay P] {all : Array Oper} {draw : Bool} {K : AX → Slots → St → Prop} {rest : List Oper} {acc : List Tag} {s : Slots} {σ : St}
variable {d : Tmp} {ty : TypeId} {pos : String} {af : Array Edge}
end rules
theorem set_same {α : Type} : ∀ {l : List α} {j : Nat} {u : α}, l[j]? = some u → l.set j u = l
  | x :: l, 0, u, h => by simp at h; subst h; rfl
  | x :: l, j + 1, u, h => by
    have := set_same (l := l) (j := j) (u := u) (by simpa using h)
    simp [this]
  | [], _, _, h => by simp at h
theorem HCode.adoptB {P : Program} {N : Nat} {D : List Deferred} {c : Code} {K : AX → Slots → St → Prop} {s : Slots} {σ : St} (i j : Nat) (agg : Bool) (z : Nat) {cs : List AV} {xs : List AV} {t : Tk} {k n : Nat} {B' : List Ob} {T' : List Tok} (hB : σ.B[i]? = some (.cells cs)) (hx : cs[j]? = some (.slice xs t))
    (ht : t.fresh = true) (hf : fitsAll agg z xs = true) (hk : smallLen σ.T = some k) (hn : xs.length = n) (hT' : snocK σ.T (.len n) some = some T') (hB' : σ.B.set i (.cells (cs.set j (.slice xs (.own k z)))) = B') (h : HCode P N D c K s ⟨B', T'⟩) : HCode P N D c K s σ := fun g w a hi hs ha hd => by
  have hlt : i < g.bx.length := by rw [hi.lenB]; exact (List.getElem?_eq_some_iff.1 hB).1
  have hb : g.bx[i]? = some g.bx[i] := List.getElem?_eq_getElem hlt
  obtain ⟨vals, ty, q1, q2, q3⟩ := hi.ob i _ _ hb hB
  obtain ⟨u, hu, hr⟩ := q2.get hx
  obtain ⟨g1, e1, e2, e3⟩ := adopt_sem ht hf hi hr
  have hkl : σ.T.length = k := smallLen_spec hk
  have hTe : σ.T ++ [Tok.len n] = T' := Option.some.inj (snocK_spec _ _ _ _ hT')
  rw [hn, hTe] at e2
  rw [hkl] at e3
  have hI : Inv g1 ⟨B', T'⟩ w := by
    refine ⟨by rw [e2.lenB, ← hB']; simp, e2.lenT, fun i' b' ob' h1 h2 => ?_, e2.nodup, e2.noim, e2.tok, e2.tkz, e2.tkd, e2.imlt, e2.gl⟩
    by_cases e : i = i'
    · subst e
      have hb1 := e1.le.bx _ _ hb
      rw [hb1] at h1
      cases h1
      have h2' : ob' = .cells (cs.set j (.slice xs (.own k z))) := by
        have : i < σ.B.length := (List.getElem?_eq_some_iff.1 hB).1
        rw [← hB'] at h2
        simpa [this] using h2.symm
      subst h2'
      obtain ⟨vals', ty', p1, p2, p3⟩ := e2.ob i _ _ hb1 hB
      rw [q1] at p1
      cases p1
      refine ⟨vals, ty, q1, ?_, q3⟩
      have := RepL.set j p2 e3
      rwa [set_same hu] at this
    · refine e2.ob i' b' ob' h1 ?_
      rw [← hB'] at h2
      simpa [e] using h2
  exact wp_mono (h g1 w a hI (fun u => Rep.mono e1.le _ _ (hs u)) ha hd) fun _ _ _ hp => hp.trans e1
def eqCell (k : TKind) (x y : AV) : Option Bool :=
  match k, x, y with
  | .bool, .bool a, .bool b => some (a == b)
  | .int _, .int k a, .int k' b => if k = k' then some (a == b) else none
  | .string, .str a, .str b => some (a == b)
  | _, _, _ => none
def eqFs (P : Program) [Lay P] : List Field → Nat → List AV → List AV → Option Bool
  | [], _, [], [] => some true
  | f :: fs, i, x :: xs, y :: ys => match Nat.beq f.offset i, ty? P f.type with
    | true, some ti => match ti.agg, eqCell ti.kind x y, eqFs P fs (i + 1) xs ys with
      | false, some b, some r => some (b && r)
      | _, _, _ => none
    | _, _ => none
  | _, _, _, _ => none
structure EqT (P : Program) (T : TypeId) (fs : List Field) : Prop where
  u : P.underlying T = some (.struct fs.toArray)
  held : P.stoodInHeld T = false
  plain : P.eqGuardType P.depth T = false
  named : (fs.all fun f => f.name != "_") = true
section
variable {P : Program} [Lay P]
omit [Lay P] in
theorem eqCell_spec {g : Gh} {w : World} {k : TKind} {t : TypeId} {dsc : TypeDesc} {x y : AV} {u v : Value} {b : Bool} (hd : P.underlying t = some dsc) (hk : kindOf dsc = k) (h : eqCell k x y = some b) (hx : Rep g w x u) (hy : Rep g w y v) (n : Nat) :
    (Op.equalIn (n + 1) t u v).run P w = .ok b w := by
  unfold eqCell at h
  split at h
  · cases (show u = _ from hx); cases (show v = _ from hy); cases h
    cases dsc <;> first | (cases hk; done) | simp [Op.equalIn, run_underlying hd, Result.andThen]
  · cases (show u = _ from hx); cases (show v = _ from hy)
    split at h
    case isFalse => cases h
    case isTrue e =>
    subst e; cases h
    cases dsc <;> first | (cases hk; done) | simp [Op.equalIn, run_underlying hd, Result.andThen]
  · cases (show u = _ from hx); cases (show v = _ from hy); cases h
    cases dsc <;> first | (cases hk; done) | skip
    rename_i xa ya
    have e : ((⟨xa.toArray⟩ : ByteArray) == ⟨ya.toArray⟩) = (xa == ya) := by
      show (xa.toArray == ya.toArray) = (xa == ya)
      rw [Bool.eq_iff_iff, beq_iff_eq, beq_iff_eq]
      simp
    simp [Op.equalIn, run_underlying hd, Result.andThen, e]
  · cases h
theorem run_part {t : TypeId} {ti : TI} (h : ty? P t = some ti) (ha : ti.agg = false) {cs : Array Value} {off : Nat} {v : Value} (hv : cs[off]? = some v) (w : World) : (part t cs off).run P w = .ok v w := by
  unfold part
  simp only [Sem.run_bind, run_isAgg' h, Result.andThen, ha, Bool.false_eq_true, if_false, hv, Sem.run_pure]
theorem eqFs_spec {g : Gh} {w : World} {us vs : Array Value} (n : Nat) : ∀ (fs : List Field) (i : Nat) (xs ys : List AV) (b : Bool), (fs.all fun f => f.name != "_") = true → eqFs P fs i xs ys = some b → RepL g w xs (us.toList.drop i) → RepL g w ys (vs.toList.drop i) →
    ((forIn fs ((none : Option Bool), ()) fun f __s =>
                if f.name ≠ "_" then do
                  let a ← part f.type us f.offset
                  let c ← part f.type vs f.offset
                  let e ← Op.equalIn (n + 1) f.type a c
                  if (!e) = true then pure (ForInStep.done (some false, ()))
                    else pure (ForInStep.yield (none, ()))
                else pure (ForInStep.yield (none, ()))) : Sem (Option Bool × Unit)).run P w = .ok (if b then none else some false, ()) w
  | [], i, [], [], b, _, h, _, _ => by
    cases h
    simp
  | f :: fs, i, x :: xs, y :: ys, b, hn, h, hx, hy => by
    simp only [List.all_cons, Bool.and_eq_true] at hn
    unfold eqFs at h
    split at h
    case h_2 => cases h
    case h_1 ti e1 e2 =>
    split at h
    case h_2 => cases h
    case h_1 b1 r ea e3 e4 =>
    have ho := Nat.eq_of_beq_eq_true e1
    obtain ⟨u, ur, hu1, hu2, hu3⟩ := hx
    obtain ⟨v, vr, hv1, hv2, hv3⟩ := hy
    have gu : us[f.offset]? = some u := by
      have : (us.toList.drop i)[0]? = some u := by rw [hu1]; rfl
      rw [ho]; simpa using this
    have gv : vs[f.offset]? = some v := by
      have : (vs.toList.drop i)[0]? = some v := by rw [hv1]; rfl
      rw [ho]; simpa using this
    obtain ⟨info, dd, z0, t1, t2, t3, t4, _⟩ := (ty_ok e2).ex
    have h1 := eqCell_spec t2 t3 e3 hu2 hv2 n
    have hne : f.name ≠ "_" := by simpa using hn.1
    have d1 : us.toList.drop (i + 1) = ur := by rw [← List.drop_drop, hu1]; rfl
    have d2 : vs.toList.drop (i + 1) = vr := by rw [← List.drop_drop, hv1]; rfl
    have ih := eqFs_spec n fs (i + 1) xs ys r hn.2 e4 (by rw [d1]; exact hu3) (by rw [d2]; exact hv3)
    cases h
    rw [List.forIn_cons]
    simp only [if_pos hne, Sem.run_bind, run_part e2 ea gu, run_part e2 ea gv, h1, Result.andThen]
    cases b1 with
    | true =>
      simp only [Bool.not_true, Bool.false_eq_true, if_false, Sem.run_pure, Bool.true_and]
      exact ih
    | false => simp
  | [], _, _ :: _, _, _, _, h, _, _ => by cases h
  | [], _, [], _ :: _, _, _, h, _, _ => by cases h
  | _ :: _, _, [], _, _, _, h, _, _ => by cases h
  | _ :: _, _, _ :: _, [], _, _, h, _, _ => by cases h
theorem run_equal {T : TypeId} {fs : List Field} (hT : EqT P T fs) {g : Gh} {w : World} {xs ys : List AV} {u v : Value} {b : Bool} (h : eqFs P fs 0 xs ys = some b) (hx : Rep g w (.agg xs) u) (hy : Rep g w (.agg ys) v) : (Op.equal T u v).run P w = .ok b w := by
  obtain ⟨us, rfl, h1, _⟩ := hx
  obtain ⟨vs, rfl, h2, _⟩ := hy
  have h3 := eqFs_spec (us := us) (vs := vs) 9998 fs 0 xs ys b hT.named h (by simpa using h1) (by simpa using h2)
  unfold Op.equal Op.maxDepth
  rw [Op.equalIn]
  simp only [Sem.run_bind, run_underlying hT.u, Result.andThen, run_program, hT.held, Bool.false_eq_true, if_false, List.forIn_toArray]
  rw [h3]
  cases b <;> simp
section rules
variable {all : Array Oper} {draw : Bool} {K : AX → Slots → St → Prop} {rest : List Oper} {acc : List Tag} {s : Slots} {σ : St}
variable {d : Tmp} {ty : TypeId} {pos : String} {af : Array Edge}
omit [Lay P] in
theorem run_guard {T : TypeId} {fs : List Field} (hT : EqT P T fs) {op : BinOp} {x y : Operand} {us vs : Array Value} (w : World) : (eqGuard op T x y (.agg us) (.agg vs)).run P w = .ok () w := by
  have h : (!P.eqGuardType P.depth T) = true := by rw [hT.plain]; rfl
  cases op <;> simp [eqGuard, hT.plain]
theorem A.eqT {T U : TypeId} {x y : Operand} {xs ys : List AV} {fs : List Field} {b : Bool} (hT : EqT P T fs) (hx : ev? s x = some (.agg xs)) (hy : ev? s y = some (.agg ys)) (h : eqFs P fs 0 xs ys = some b) (k : AOps P all draw K rest (.pure :: acc) ((d, .bool b) :: s) σ) :
    AOps P all draw K (⟨some d, .binOp .eql T x y U, ty, pos, af, none⟩ :: rest) acc s σ :=
  A.step rfl (tpure fun g w a ho => by
    have h1 := op1 hx (by simp [Op.operands]) ho
    have h2 := op1 hy (by simp [Op.operands]) ho
    have h3 := run_equal hT h h1 h2
    obtain ⟨us, e1, _⟩ := h1
    obtain ⟨vs, e2, _⟩ := h2
    rw [e1, e2] at h3
    exact ⟨.bool b, by simp [execOp, e1, e2, run_guard hT, Go.binOp, h3, Result.andThen], rfl⟩) k
theorem A.neT {T U : TypeId} {x y : Operand} {xs ys : List AV} {fs : List Field} {b : Bool} (hT : EqT P T fs) (hx : ev? s x = some (.agg xs)) (hy : ev? s y = some (.agg ys)) (h : eqFs P fs 0 xs ys = some b) (k : AOps P all draw K rest (.pure :: acc) ((d, .bool (!b)) :: s) σ) :
    AOps P all draw K (⟨some d, .binOp .neq T x y U, ty, pos, af, none⟩ :: rest) acc s σ :=
  A.step rfl (tpure fun g w a ho => by
    have h1 := op1 hx (by simp [Op.operands]) ho
    have h2 := op1 hy (by simp [Op.operands]) ho
    have h3 := run_equal hT h h1 h2
    obtain ⟨us, e1, _⟩ := h1
    obtain ⟨vs, e2, _⟩ := h2
    rw [e1, e2] at h3
    exact ⟨.bool (!b), by simp [execOp, e1, e2, run_guard hT, Go.binOp, h3, Result.andThen], rfl⟩) k
theorem A.eqb {T U : TypeId} {x y : Operand} {m n : Bool} {ti : TI} (hT : ty? P T = some ti) (hk : ti.kind = .bool) (hx : ev? s x = some (.bool m)) (hy : ev? s y = some (.bool n)) (k : AOps P all draw K rest (.pure :: acc) ((d, .bool (m == n)) :: s) σ) :
    AOps P all draw K (⟨some d, .binOp .eql T x y U, ty, pos, af, none⟩ :: rest) acc s σ :=
  A.step rfl (tpure fun g w a ho => by
    have h1 : a.eval x = .bool m := op1 hx (by simp [Op.operands]) ho
    have h2 : a.eval y = .bool n := op1 hy (by simp [Op.operands]) ho
    obtain ⟨info, dd, z, t1, t2, t3, _⟩ := (ty_ok hT).ex
    rw [hk] at t3
    have h3 : (Op.equal T (.bool m) (.bool n)).run P w = .ok (m == n) w := eqCell_spec (g := ⟨[], [], fun _ _ => False⟩) (x := .bool m) (y := .bool n) t2 t3 rfl rfl rfl 9999
    exact ⟨.bool (m == n), by simp [execOp, h1, h2, eqGuard, Go.binOp, h3, Result.andThen], rfl⟩) k
theorem A.neb {T U : TypeId} {x y : Operand} {m n : Bool} {ti : TI} (hT : ty? P T = some ti) (hk : ti.kind = .bool) (hx : ev? s x = some (.bool m)) (hy : ev? s y = some (.bool n)) (k : AOps P all draw K rest (.pure :: acc) ((d, .bool (m != n)) :: s) σ) :
    AOps P all draw K (⟨some d, .binOp .neq T x y U, ty, pos, af, none⟩ :: rest) acc s σ :=
  A.step rfl (tpure fun g w a ho => by
    have h1 : a.eval x = .bool m := op1 hx (by simp [Op.operands]) ho
    have h2 : a.eval y = .bool n := op1 hy (by simp [Op.operands]) ho
    obtain ⟨info, dd, z, t1, t2, t3, _⟩ := (ty_ok hT).ex
    rw [hk] at t3
    have h3 : (Op.equal T (.bool m) (.bool n)).run P w = .ok (m == n) w := eqCell_spec (g := ⟨[], [], fun _ _ => False⟩) (x := .bool m) (y := .bool n) t2 t3 rfl rfl rfl 9999
    exact ⟨.bool (m != n), by simp [execOp, h1, h2, eqGuard, Go.binOp, h3, Result.andThen, bne], rfl⟩) k
end rules
end
end Go.Av
set_option linter.unusedVariables false
namespace Go.Av
open Go
set_option linter.unusedSectionVars false
variable [Globals]
section rules
variable {P : Program} [Lay P] {all : Array Oper} {draw : Bool} {K : AX → Slots → St → Prop} {rest : List Oper} {acc : List Tag} {s : Slots} {σ : St}
variable {d : Tmp} {ty : TypeId} {pos : String} {af : Array Edge}
omit [Lay P] in
theorem A.box_r {T : TypeId} {x : Operand} {v : AV} (hx : ev? s x = some v) (hc : cellsK v (fun _ => some ()) = some ())
    (k : AOps P all draw K rest (.pure :: acc) ((d, .rptr v) :: s) σ) : AOps P all draw K (⟨some d, .box T x, ty, pos, af, none⟩ :: rest) acc s σ :=
  A.step (t := .pure) rfl ⟨rfl, fun τ => by
    intro g w a next Q hI ho hn
    have h1 := op1 hx (by simp [Op.operands]) ho
    obtain ⟨cs, _, h3, h4⟩ := cellsK_spec hc h1
    obtain ⟨n1, n2⟩ := new_data hI (a.eval x).cells T (a.eval x).cells.size (Nat.le_refl _)
    unfold Oper.wp
    simp only [execOp, Instr.box, newVar, newRow, newObj, Sem.run_bind, Result.andThen, Sem.run]
    refine hn _ _ _ n1 n2 ⟨w.heap.size, 0, a.eval x, rfl, fun j u hj => ⟨.inr ⟨rfl, ?_⟩, ?_, h4 u ?_⟩, Rep.mono n1.le _ _ h1⟩
    · have := (Array.getElem?_eq_some_iff.1 hj).1; omega
    · show (pushW w (.cells (a.eval x).cells T)).cell? ⟨w.heap.size, 0 + j, none⟩ = some u
      rw [Nat.zero_add, new_data_cell]
      exact hj
    · exact List.mem_of_getElem? (by rw [Array.getElem?_toList]; exact hj)⟩ k
omit [Lay P] in
theorem A.callw {d : Option Tmp} {x : Operand} {f : FuncId} {args : Array Operand} {tys : Array TypeId} {fs cs vals vals' : List AV} {r : AV} (hx : ev? s x = some (.fn (.func f) fs cs)) (ha : evsK s args.toList some = some vals) (hp : PFn P f vals' r) (hw : WeakL (fs ++ vals ++ cs) vals')
    (k : AOps P all draw K rest (.pure :: acc) (putS d r s) σ) : AOps P all draw K (⟨d, .call ⟨.value x, args, tys⟩, ty, pos, af, none⟩ :: rest) acc s σ :=
  A.step (t := .pure) rfl ⟨rfl, fun τ => by
    intro g w a next Q hI ho hn
    have hv : args.toList.map (ev s) = vals := Option.some.inj (evsK_spec _ _ _ ha)
    obtain ⟨vs, us, hfx, hf1, hf2⟩ := op1 hx (by simp [Op.operands, Call.operands]) ho
    have hl := repL_map (g := g) (w := w) (s := s) (a := a) args.toList (fun x hx => ho x (by simpa [Op.operands, Call.operands] using .inr (by simpa using hx)))
    rw [hv] at hl
    have hl2 : RepL ⟨[], [], g.im⟩ w vals' (vs ++ args.map a.eval ++ us).toList := by
      simp only [Array.toList_append, Array.toList_map]
      exact RepL.close (bx := g.bx) (tk := g.tk) _ _ hp.2.1 (hw _ _ _ ((hf1.append hl).append hf2))
    unfold Oper.wp
    rw [run_call_value hp.1 a w vs us hfx]
    show Calls P f (vs ++ args.map a.eval ++ us) w _
    refine (hp.2.2 g.im w _ hI.imlt hI.gl hl2).mono ?_
    rintro e w' ⟨im', h1, h2, u, rfl, h3⟩
    obtain ⟨h4, h5⟩ := bare_ext hI h1 h2
    exact hn u w' _ h4 h5 (Rep.mono (g := ⟨[], [], im'⟩) (w := w') (g' := ⟨g.bx, g.tk, im'⟩) (w' := w') ⟨fun _ _ h => ⟨h, rfl⟩, fun _ _ h => by simp at h, fun _ _ h => by simp at h⟩ _ _ h3)⟩ k
omit [Lay P] in
theorem run_eq_nil {T el : TypeId} (h : P.underlying T = some (.slice el)) (p : Option Addr) (m c n : Nat) (w : World) : (Op.equalIn (n + 1) T (.slice p m c) (.slice none 0 0)).run P w = .ok p.isNone w := by
  cases p <;> simp [Op.equalIn, run_underlying h, Result.andThen]
theorem A.isnil {T U : TypeId} {x : Operand} {xs : List AV} {ti : TI} (hT : ty? P T = some ti) (hk : ti.kind = .slice) (hx : ev? s x = some (.slice xs .nil))
    (k : AOps P all draw K rest (.pure :: acc) ((d, .bool true) :: s) σ) : AOps P all draw K (⟨some d, .binOp .eql T x (.const (.slice none 0 0)) U, ty, pos, af, none⟩ :: rest) acc s σ :=
  A.step rfl (tpure fun g w a ho => by
    obtain ⟨p, cap, sz, Vs, e, c1, c2, ⟨c3, c4⟩, _⟩ := op1 hx (by simp [Op.operands]) ho
    obtain ⟨info, dd, z0, t1, t2, t3, t4, _⟩ := (ty_ok hT).ex
    have hd : ∃ e, dd = .slice e := by rw [hk] at t3; cases dd <;> first | exact ⟨_, rfl⟩ | cases t3
    obtain ⟨elm, rfl⟩ := hd
    subst c3
    have h3 : (Op.equal T (.slice none Vs.length cap) (.slice none 0 0)).run P w = .ok true w := run_eq_nil t2 none Vs.length cap 9999 w
    have ec : a.eval (.const (.slice none 0 0)) = .slice none 0 0 := rfl
    exact ⟨.bool true, by simp [execOp, e, ec, eqGuard, Go.binOp, h3, Result.andThen], rfl⟩) k
theorem A.notnil {T U : TypeId} {x : Operand} {xs : List AV} {ti : TI} (hT : ty? P T = some ti) (hk : ti.kind = .slice) (hx : ev? s x = some (.slice xs .nn))
    (k : AOps P all draw K rest (.pure :: acc) ((d, .bool false) :: s) σ) : AOps P all draw K (⟨some d, .binOp .eql T x (.const (.slice none 0 0)) U, ty, pos, af, none⟩ :: rest) acc s σ :=
  A.step rfl (tpure fun g w a ho => by
    obtain ⟨p, cap, sz, Vs, e, c1, c2, c3, _⟩ := op1 hx (by simp [Op.operands]) ho
    obtain ⟨info, dd, z0, t1, t2, t3, t4, _⟩ := (ty_ok hT).ex
    have hd : ∃ e, dd = .slice e := by rw [hk] at t3; cases dd <;> first | exact ⟨_, rfl⟩ | cases t3
    obtain ⟨elm, rfl⟩ := hd
    obtain ⟨q, hq⟩ : ∃ q, p = some q := by cases p with | none => exact absurd rfl c3 | some q => exact ⟨q, rfl⟩
    subst hq
    have h3 : (Op.equal T (.slice (some q) Vs.length cap) (.slice none 0 0)).run P w = .ok false w := run_eq_nil t2 (some q) Vs.length cap 9999 w
    have ec : a.eval (.const (.slice none 0 0)) = .slice none 0 0 := rfl
    exact ⟨.bool false, by simp [execOp, e, ec, eqGuard, Go.binOp, h3, Result.andThen], rfl⟩) k
end rules
theorem HCode.split_nil {P : Program} {N : Nat} {D : List Deferred} {c : Code} {K : AX → Slots → St → Prop} {s : Slots} {σ : St} (tm : Nat) {xs : List AV} {t : Tk} (hx : lk? s tm = some (.slice xs t))
    (h1 : xs = [] → HCode P N D c K ((tm, .slice xs .nil) :: s) σ) (h0 : HCode P N D c K ((tm, .slice xs .nn) :: s) σ) : HCode P N D c K s σ := fun g w a hi hs ha hd => by
  have hr := hs tm
  rw [lk_of hx] at hr
  have key : ∀ y, Rep g w y (a.tmps.getD tm undef) → SRep g w ((tm, y) :: s) a.tmps := fun y hy u => by
    unfold lk
    cases e : Nat.beq tm u with
    | true => have := Nat.eq_of_beq_eq_true e; subst this; exact hy
    | false => exact hs u
  obtain ⟨p, cap, sz, Vs, e, c1, c2, c3, c4, c5, c6⟩ := hr
  cases p with
  | none =>
    obtain ⟨rfl, rfl⟩ := c5 rfl
    have hxs : xs = [] := List.eq_nil_of_length_eq_zero c4.length.symm
    exact h1 hxs g w a hi (key _ ⟨none, 0, sz, [], e, c1, c2, ⟨rfl, rfl⟩, c4, c5, c6⟩) ha hd
  | some q => exact h0 g w a hi (key _ ⟨some q, cap, sz, Vs, e, c1, c2, (fun h => by cases h), c4, c5, c6⟩) ha hd
end Go.Av
