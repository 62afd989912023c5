/-
  A function that defers one closure, which recovers.
-/
import Derived.Test.YtajddgpkflbnaaaAvRen2
set_option linter.unusedVariables false
namespace Go.Av
open Go
set_option linter.unusedSectionVars false
variable [Globals]

/-- How the deferred call finds the frame that it leaves: no panic, or one of x. -/
def ModeOk (g : Gh) (w : World) : Option AV → FrameMode → Prop
  | none, u => u = .returning
  | some x, u => ∃ v, u = .panicking [{ v := v, recovered := false }] ∧ Rep g w x v

/-- What a deferred call of a closure does (which recovers): from σ to σ'. -/
def DFn (P : Program) (f : FuncId) (caps : List AV) (rec : Option AV) (σ σ' : St) : Prop :=
  Callable P f ∧ ∀ (g : Gh) (w : World) (vals : Array Value) (u : FrameMode), Inv g σ w → RepL g w caps vals.toList → ModeOk g w rec u →
    CallsD P f vals u w fun e u' w' => (∃ v, e = .returned v) ∧ settle u' = .returning ∧ ∃ g', Ext g w g' w' ∧ Inv g' σ' w'

theorem DFn.enter {P : Program} {f : FuncId} {fn : Func} {rest : Code} {id : Nat} {tr tx : Nat} {t1 t2 : TypeId} {p1 p2 : String} {a1 a2 : Array Edge} {caps : List AV} {rec : Option AV} {σ σ' : St} {N : Nat} (hf : P.funcs[f]? = some fn)
    (hb : fn.body = some (.seq (.region id #[⟨some tr, .call ⟨.builtin .recover, #[], #[]⟩, t1, p1, a1, none⟩, ⟨some tx, .assign (.tmp tr), t2, p2, a2, none⟩] false) rest)) (hN : fn.ntmps = N)
    (hname : (fn.name == "runtime.NumGoroutine") = false) (hargs : Nat.ble caps.length N = true) (hr : Nat.blt tr N = true) (hx : Nat.blt tx N = true) (hres : fn.results = #[]) (hrec : ∀ x, rec = some x → ∃ t y, x = .iface t y)
    (h : HCode P N [] rest (fun ae s σ1 => (ae = .normal ∨ ae = .ret) ∧ σ1 = σ') ((tx, rec.getD .nili) :: (tr, rec.getD .nili) :: argSlots 0 caps) σ) : DFn P f caps rec σ σ' := by
  refine ⟨⟨fn, hf, hname, by rw [hb]; rfl⟩, fun g w vals u hi hl hm => ?_⟩
  refine callsD_of_wpS hf hb fun c₀ cs hc => ?_
  have hargs' : caps.length ≤ N := Nat.le_of_ble_eq_true hargs
  have hr' : tr < N := Nat.le_of_ble_eq_true hr
  have hx' : tx < N := Nat.le_of_ble_eq_true hx
  have hlen : vals.size = caps.length := by simpa using hl.length
  let a0 : Act := { tmps := vals ++ Array.replicate (fn.ntmps - vals.size) undef, defers := [] }
  have hsz : a0.tmps.size = N := by simp [a0]; omega
  have hs0 : SRep g w (argSlots 0 caps) a0.tmps := fun t => by
    rw [lk_argSlots]
    simp only [Nat.not_lt_zero, if_false, Nat.sub_zero]
    cases e : caps[t]? with
    | none => trivial
    | some v =>
      obtain ⟨u, h1, h2⟩ := hl.get e
      have : a0.tmps.getD t undef = u := by
        rw [Array.getElem?_toList] at h1
        have hlt := (Array.getElem?_eq_some_iff.1 h1).1
        simp only [Array.getD_eq_getD_getElem?, a0]
        rw [Array.getElem?_append_left hlt, h1]
        rfl
      rw [this]
      exact h2
  -- what is recovered, and the frame behind
  obtain ⟨x, u', hxr, hset, hop⟩ : ∃ x u', Rep g w (rec.getD .nili) x ∧ settle u' = .returning ∧
      ((recoverD (c₀ :: cs) = none ∧ x = .nilIface ∧ ({ c₀ with mode := u' } : Frame) = c₀) ∨ recoverD (c₀ :: cs) = some (x, { c₀ with mode := u' } :: cs)) := by
    cases rec with
    | none =>
      have hu : u = .returning := hm
      subst hu
      exact ⟨.nilIface, .returning, rfl, rfl, .inl ⟨by simp [recoverD, hc], rfl, by rw [← hc]⟩⟩
    | some y =>
      obtain ⟨v, hu, hv⟩ := hm
      exact ⟨v, .panicking [{ v := v, recovered := true }], hv, rfl, .inr (by simp [recoverD, hc, hu])⟩
  refine wpS_seq (wpS_region ?_)
  have e1 : ∀ a : Act, (execOp a.eval ⟨some tr, .call ⟨.builtin .recover, #[], #[]⟩, t1, p1, a1, none⟩).run P w = .ok .recover w := by
    intro a
    simp [execOp, resolve, invoke, builtin]
  show wpOpsS P _ _ [0, 1] a0 (c₀ :: cs) w
  unfold wpOpsS
  simp only [List.getElem?_toArray, List.getElem?_cons_zero, Region.wanted, if_true, e1]
  have e2 : ∀ a : Act, (execOp a.eval ⟨some tx, .assign (.tmp tr), t2, p2, a2, none⟩).run P w = .ok (.value (a.eval (.tmp tr))) w := fun a => rfl
  have hs1 := hs0.put (d := tr) (v := rec.getD .nili) (u := x) (by omega) hxr
  have hval : (a0.put (some tr) x).eval (.tmp tr) = x := by
    simp [Act.eval, Act.put, hsz, hr']
  have hs2 := hs1.put (d := tx) (v := rec.getD .nili) (u := x) (by simp [Act.put]; omega) hxr
  have fin : rest.wpS P (bodyPostS P fn c₀ cs fun e u' w' => (∃ v, e = Ending.returned v) ∧ settle u' = FrameMode.returning ∧ ∃ g', Ext g w g' w' ∧ Inv g' σ' w') ((a0.put (some tr) x).put (some tx) x) ({ c₀ with mode := u' } :: cs) w := by
    refine wpS_of_wp ?_
    refine wp_mono (h g w _ hi hs2 (by simp [Act.put]; omega) rfl) ?_
    rintro e a' w' ⟨ae, s', σ1, g', h1, h2, h3, h4, h5, h6, h7, rfl⟩
    have hrr : (results fn a'.tmps).run P w' = .ok (.tuple #[]) w' := by simp [results, hres]
    rcases h7 with rfl | rfl
    · cases (show e = .normal from h1)
      exact ⟨h3, u', rfl, _, hrr, ⟨_, rfl⟩, hset, g', h4, h5⟩
    · cases (show e = .ret from h1)
      exact ⟨h3, u', rfl, _, hrr, ⟨_, rfl⟩, hset, g', h4, h5⟩
  rcases hop with ⟨q1, rfl, q2⟩ | q1
  · rw [q2] at fin
    simp only [q1]
    unfold wpOpsS
    simp only [List.getElem?_toArray, List.getElem?_cons_succ, List.getElem?_cons_zero, Region.wanted, if_true, e2, Oper.upon_value, hval]
    unfold wpOpsS
    exact fin
  · simp only [q1]
    unfold wpOpsS
    simp only [List.getElem?_toArray, List.getElem?_cons_succ, List.getElem?_cons_zero, Region.wanted, if_true, e2, Oper.upon_value, hval]
    unfold wpOpsS
    exact fin

section
variable {P : Program} [Lay P]

/-- What the end of the walk owes: the deferred call comes, then the results are read. -/
def finD (P : Program) [Lay P] (rs : List ResultVar) (fd : FuncId) (caps : List AV) (post : AEnd → St → Prop) : AX → Slots → St → Prop
  | .normal => fun s σ => ∃ σ', DFn P fd caps none σ σ' ∧ ∃ v, resK? P s σ' rs packAV = some v ∧ post (.ret v) σ'
  | .ret => fun s σ => ∃ σ', DFn P fd caps none σ σ' ∧ ∃ v, resK? P s σ' rs packAV = some v ∧ post (.ret v) σ'
  | .pan x => fun s σ => ∃ σ', DFn P fd caps (some x) σ σ' ∧ ∃ v, resK? P s σ' rs packAV = some v ∧ post (.ret v) σ'
  | _ => fun _ _ => False

/-- A function whose body first makes its boxes, then defers a closure over them. -/
theorem AFn.enterD {f fd : FuncId} {fn : Func} {c0 rest : Code} {id tf : Nat} {caps : Array Operand} {t1 t2 : TypeId} {p1 p2 : String} {a1 a2 : Array Edge} {args : List AV} {σ : St} {post : AEnd → St → Prop} (rs : List ResultVar) {N : Nat}
    (hf : P.funcs[f]? = some fn) (hb : fn.body = some (.seq c0 (.seq (.region id #[⟨some tf, .makeFunc (.func fd) #[] caps, t1, p1, a1, none⟩, ⟨none, .defer ⟨.value (.tmp tf), #[], #[]⟩, t2, p2, a2, none⟩] false) rest))) (hN : fn.ntmps = N)
    (hname : (fn.name == "runtime.NumGoroutine") = false) (hargs : Nat.ble args.length N = true) (htf : Nat.blt tf N = true) (hres : fn.results = rs.toArray)
    (h : HCode P N [] c0 (fun ae s σ1 => ae = .normal ∧ ∃ cv, evsK s caps.toList some = some cv ∧ Callable P fd ∧ ∀ D, HCode P N D rest (finD P rs fd cv post) ((tf, .fn (.func fd) [] cv) :: s) σ1) (argSlots 0 args) σ) : AFn P f args σ post := by
  refine ⟨⟨fn, hf, hname, by rw [hb]; rfl⟩, fun g w vals hi hl => ?_⟩
  have hargs' : args.length ≤ N := Nat.le_of_ble_eq_true hargs
  have htf' : tf < N := Nat.le_of_ble_eq_true htf
  have hlen : vals.size = args.length := by simpa using hl.length
  refine calls_of_wp_defers hf hb (wp_seq (wp_mono (h g w _ hi (fun t => ?_) ?_ rfl) ?_))
  · rw [lk_argSlots]
    simp only [Nat.not_lt_zero, if_false, Nat.sub_zero]
    cases e : args[t]? with
    | none => trivial
    | some v =>
      obtain ⟨u, h1, h2⟩ := hl.get e
      have : (vals ++ Array.replicate (fn.ntmps - vals.size) undef).getD t undef = u := by
        rw [Array.getElem?_toList] at h1
        have hlt := (Array.getElem?_eq_some_iff.1 h1).1
        simp only [Array.getD_eq_getD_getElem?]
        rw [Array.getElem?_append_left hlt, h1]
        rfl
      rw [this]
      exact h2
  · simp; omega
  · rintro e a w1 ⟨ae, s1, σ1, g1, h1, h2, h3, h4, h5, h6, rfl, cv, h7, hcall, h8⟩
    cases (show e = .normal from h1)
    refine wp_seq (wp_region_list ?_)
    have hcv : caps.toList.map (ev s1) = cv := Option.some.inj (evsK_spec _ _ _ h7)
    have hcl : RepL g1 w1 cv (caps.map a.eval).toList := by
      rw [← hcv, Array.toList_map]
      exact repL_map _ fun x _ => rep_ev h5.gl h6 x
    let fv : Value := .func (.func fd) #[] (caps.map a.eval)
    have hfv : Rep g1 w1 (.fn (.func fd) [] cv) fv := ⟨#[], _, rfl, rfl, hcl⟩
    have e1 : (execOp a.eval ⟨some tf, .makeFunc (.func fd) #[] caps, t1, p1, a1, none⟩).run P w1 = .ok (.value fv) w1 := by
      simp [execOp, Instr.makeFunc, fv]
    have hput : (a.put (some tf) fv).eval (.tmp tf) = fv := by
      simp [Act.eval, Act.put, h2, htf']
    have e2 : (execOp (a.put (some tf) fv).eval ⟨none, .defer ⟨.value (.tmp tf), #[], #[]⟩, t2, p2, a2, none⟩).run P w1 = .ok (.defer { target := .fn (.func fd) (caps.map a.eval), args := #[] }) w1 := by
      simp only [execOp, resolve, hput]
      simp [fv, Deferred.ofValue]
    unfold wpList
    rw [show Region.wanted (⟨some tf, .makeFunc (.func fd) #[] caps, t1, p1, a1, none⟩ : Oper) _ = true from rfl, if_pos rfl]
    refine .inl ?_
    unfold Oper.wp
    rw [e1, Oper.upon_value]
    unfold wpList
    rw [show Region.wanted (⟨none, .defer ⟨.value (.tmp tf), #[], #[]⟩, t2, p2, a2, none⟩ : Oper) _ = true from rfl, if_pos rfl]
    refine .inl ?_
    unfold Oper.wp
    rw [e2, Oper.upon_defer]
    unfold wpList
    let d0 : Deferred := { target := .fn (.func fd) (caps.map a.eval), args := #[] }
    have hs2 : SRep g1 w1 ((tf, .fn (.func fd) [] cv) :: s1) (a.put (some tf) fv).tmps := h6.put (by omega) hfv
    have ha3 : a.defers = [] := h3
    refine wp_mono (h8 [d0] g1 w1 _ h5 hs2 (by simpa [Act.put] using h2) (by simp [Act.put, ha3, d0])) ?_
    rintro e a' w2 ⟨ae, s2, σ2, g2, k1, k2, k3, k4, k5, k6, k7⟩
    have hcap2 : RepL g2 w2 cv (caps.map a.eval).toList := RepL.mono k4.le _ _ hcl
    have hinv : (invoke (.fn (.func fd) (caps.map a.eval)) #[]).run P w2 = .ok (.enter fd (caps.map a.eval)) w2 := by
      simp only [invoke, Array.empty_append]
      exact run_callFunc hcall _ w2
    have key : ∀ (rec : Option AV) (u : FrameMode), u ≠ .run → ModeOk g2 w2 rec u → (∃ σ', DFn P fd cv rec σ2 σ' ∧ ∃ v, resK? P s2 σ' rs packAV = some v ∧ post (.ret v) σ') →
        Leaves P fn a'.tmps (fun e w' => ∃ g' σ' x, Ext g w g' w' ∧ Inv g' σ' w' ∧ EndRep g' w' x e ∧ post x σ') a'.defers u w2 := by
      rintro rec u hu hm ⟨σ', hd, v, hv, hpost⟩
      rw [k3]
      refine leaves_cons hu hinv ((hd.2 g2 w2 _ u k5 hcap2 hm).mono ?_)
      rintro e u' w' ⟨⟨v', rfl⟩, hset, g', x1, x2⟩
      show Leaves P fn a'.tmps _ [] (settle u') w'
      rw [hset]
      have hs' := k6.mono x1.le
      obtain ⟨vs, Vs, r1, r2, r3⟩ := resK_spec x2 hs' rs _ v hv
      exact ⟨_, run_resultsR hres r3, g', σ', .ret v, (h4.trans k4).trans x1, x2, ⟨_, rfl, packAV_spec r1 r2⟩, hpost⟩
    cases ae with
    | normal => cases (show e = .normal from k1); exact key none .returning (by simp) rfl k7
    | ret => cases (show e = .ret from k1); exact key none .returning (by simp) rfl k7
    | exit id => exact k7.elim
    | goto l => exact k7.elim
    | pan x => obtain ⟨u, rfl, hu⟩ := k1; exact key (some x) _ (by simp) ⟨u, rfl, hu⟩ k7
end
end Go.Av
