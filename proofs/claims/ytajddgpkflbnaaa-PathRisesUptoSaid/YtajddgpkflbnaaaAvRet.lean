/-
  Functions whose results lie in variables: the end of the walk.
-/
import Derived.Test.YtajddgpkflbnaaaAvCall
set_option linter.unusedVariables false
namespace Go.Av
open Go
set_option linter.unusedSectionVars false
variable [Globals]

/-- One result, as the walk's end has it. -/
def res? (P : Program) [Lay P] (s : Slots) (σ : St) : ResultVar → Option AV
  | .tmp t => some (lk s t)
  | .cell t T => match lk? s t, ty? P T with
    | some (.ptr i off), some ti => match σ.B[i]? with
      | some (.cells cs) => cut ti.agg ti.size off cs
      | _ => none
    | _, _ => none
def resK? (P : Program) [Lay P] (s : Slots) (σ : St) : List ResultVar → (List AV → Option AV) → Option AV
  | [], k => k []
  | r :: rs, k => match res? P s σ r with
    | some v => resK? P s σ rs fun l => k (v :: l)
    | none => none
def packAV : List AV → Option AV
  | [v] => some v
  | vs => some (.tup vs)
def packV (vs : List Value) : Value := match vs with
  | [v] => v
  | vs => .tuple vs.toArray

section
variable {P : Program} [Lay P]

def resOf (tmps : Array Value) : ResultVar → Sem Value
  | .tmp t => pure (tmps.getD t undef)
  | .cell a t => do loadVar t (← asAddr (tmps.getD a undef))

theorem res_spec {g : Gh} {w : World} {s : Slots} {σ : St} {tmps : Array Value} (hi : Inv g σ w) (hs : SRep g w s tmps) {r : ResultVar} {v : AV} (h : res? P s σ r = some v) :
    ∃ V, Rep g w v V ∧ (resOf tmps r).run P w = .ok V w := by
  cases r with
  | tmp t =>
    cases (Option.some.inj h)
    exact ⟨_, hs t, rfl⟩
  | cell t T =>
    simp only [res?] at h
    split at h
    case h_2 => cases h
    case h_1 i off ti e1 e2 =>
    split at h
    case h_2 => cases h
    case h_1 cs e3 =>
    have h1 := hs t
    rw [lk_of e1] at h1
    obtain ⟨b, hb, e⟩ := h1
    obtain ⟨V, hV, hrun⟩ := load_obj e2 hi hb e3 h
    refine ⟨V, hV, ?_⟩
    simp only [resOf, e, asAddr, Sem.run_bind, Sem.run_pure, Result.andThen]
    exact hrun

theorem resK_spec {g : Gh} {w : World} {s : Slots} {σ : St} {tmps : Array Value} (hi : Inv g σ w) (hs : SRep g w s tmps) : ∀ (rs : List ResultVar) (k : List AV → Option AV) (v : AV), resK? P s σ rs k = some v →
    ∃ (vs : List AV) (Vs : List Value), k vs = some v ∧ RepL g w vs Vs ∧ (rs.mapM (resOf tmps)).run P w = .ok Vs w
  | [], k, v, h => ⟨[], [], h, rfl, rfl⟩
  | r :: rs, k, v, h => by
    unfold resK? at h
    split at h
    case h_2 => cases h
    case h_1 x e =>
    obtain ⟨V, h1, h2⟩ := res_spec hi hs e
    obtain ⟨vs, Vs, h3, h4, h5⟩ := resK_spec hi hs rs _ v h
    refine ⟨x :: vs, V :: Vs, h3, ⟨V, Vs, rfl, h1, h4⟩, ?_⟩
    rw [List.mapM_cons]
    simp only [Sem.run_bind, h2, h5, Result.andThen, Sem.run_pure]

omit [Lay P] in
theorem run_resultsR {fn : Func} {rs : List ResultVar} {tmps : Array Value} {w : World} {Vs : List Value} (h : fn.results = rs.toArray) (hr : (rs.mapM (resOf tmps)).run P w = .ok Vs w) : (results fn tmps).run P w = .ok (packV Vs) w := by
  have e : results fn tmps = (fn.results.mapM (resOf tmps) >>= fun vs => pure (if h : vs.size = 1 then vs[0] else .tuple vs)) := rfl
  rw [e, h, List.mapM_toArray]
  simp only [Sem.run_bind, map_eq_pure_bind, hr, Result.andThen, Sem.run_pure]
  congr 1
  unfold packV
  match Vs with
  | [] => simp
  | [v] => simp
  | a :: b :: l => simp

/-- What the end of a function's walk owes, where results lie in variables. -/
def finR (P : Program) [Lay P] (rs : List ResultVar) (post : AEnd → St → Prop) : AX → Slots → St → Prop
  | .normal => fun s σ => ∃ v, resK? P s σ rs packAV = some v ∧ post (.ret v) σ
  | .ret => fun s σ => ∃ v, resK? P s σ rs packAV = some v ∧ post (.ret v) σ
  | .pan x => fun _ σ => post (.pan x) σ
  | _ => fun _ _ => False

theorem packAV_spec {g : Gh} {w : World} {vs : List AV} {Vs : List Value} {v : AV} (h : packAV vs = some v) (hl : RepL g w vs Vs) : Rep g w v (packV Vs) := by
  match vs, hl, h with
  | [], hl, h => cases h; rw [show Vs = [] from hl]; exact ⟨#[], rfl, rfl⟩
  | [x], ⟨u, r, e, h1, h2⟩, h => cases h; subst e; rw [show r = [] from h2]; exact h1
  | x :: y :: l, ⟨u, r, e, h1, ⟨u', r', e', h2, h3⟩⟩, h => cases h; subst e'; subst e; exact ⟨_, rfl, ⟨u, _, rfl, h1, ⟨u', r', rfl, h2, h3⟩⟩⟩

/-- A function whose body is walked. -/
theorem AFn.enterR {f : FuncId} {fn : Func} {c : Code} {args : List AV} {σ : St} {post : AEnd → St → Prop} (rs : List ResultVar) {N : Nat} (hf : P.funcs[f]? = some fn) (hb : fn.body = some c) (hN : fn.ntmps = N)
    (hname : (fn.name == "runtime.NumGoroutine") = false) (hargs : Nat.ble args.length N = true) (hres : fn.results = rs.toArray)
    (h : HCode P N [] c (finR P rs post) (argSlots 0 args) σ) : AFn P f args σ post := by
  refine ⟨⟨fn, hf, hname, by rw [hb]; rfl⟩, fun g w vals hi hl => ?_⟩
  have hargs' : args.length ≤ N := Nat.le_of_ble_eq_true hargs
  have hlen : vals.size = args.length := by simpa using hl.length
  refine calls_of_wp hf hb (wp_mono (h g w _ hi (fun t => ?_) ?_ rfl) ?_)
  · rw [lk_argSlots]
    simp only [Nat.not_lt_zero, if_false, Nat.sub_zero]
    cases e : args[t]? with
    | none => trivial
    | some v =>
      obtain ⟨u, h1, h2⟩ := hl.get e
      have : (vals ++ Array.replicate (fn.ntmps - vals.size) undef).getD t undef = u := by
        rw [Array.getElem?_toList] at h1
        have hlt := (Array.getElem?_eq_some_iff.1 h1).1
        simp only [Array.getD_eq_getD_getElem?]
        rw [Array.getElem?_append_left hlt, h1]
        rfl
      rw [this]
      exact h2
  · simp; omega
  · rintro e a w' ⟨ae, s', σ', g', h1, h2, h3, h4, h5, h6, h7⟩
    cases ae with
    | normal =>
      cases (show e = .normal from h1)
      obtain ⟨v, e1, e2⟩ := h7
      obtain ⟨vs, Vs, k1, k2, k3⟩ := resK_spec h5 h6 rs _ v e1
      exact ⟨h3, _, run_resultsR hres k3, g', σ', .ret _, h4, h5, ⟨_, rfl, packAV_spec k1 k2⟩, e2⟩
    | ret =>
      cases (show e = .ret from h1)
      obtain ⟨v, e1, e2⟩ := h7
      obtain ⟨vs, Vs, k1, k2, k3⟩ := resK_spec h5 h6 rs _ v e1
      exact ⟨h3, _, run_resultsR hres k3, g', σ', .ret _, h4, h5, ⟨_, rfl, packAV_spec k1 k2⟩, e2⟩
    | exit id => exact h7.elim
    | goto l => exact h7.elim
    | pan x => obtain ⟨u, rfl, hu⟩ := h1; exact ⟨h3, g', σ', .pan x, h4, h5, ⟨u, rfl, hu⟩, h7⟩
end
theorem FinR.ret1 {P : Program} [Lay P] {rs : List ResultVar} {s : Slots} {σ : St} {v r : AV} (h : resK? P s σ rs packAV = some v) (hw : Weak v r) : ∃ v1, resK? P s σ rs packAV = some v1 ∧ ∃ v', AEnd.ret v1 = .ret v' ∧ Weak v' r :=
  ⟨v, h, v, rfl, hw⟩
end Go.Av
