/-
  Calls with the caller's objects and tokens; calls that look; panics; interface values; deferred calls.
-/
import Derived.Test.YtajddgpkflbnaaaAvRen
import Derived.Recover
set_option linter.unusedVariables false
namespace Go.Av
open Go
set_option linter.unusedSectionVars false
variable [Globals]

/-! What refers to no memory. -/
mutual
def AV.flat : AV → Bool
  | .undef | .bool _ | .int _ _ | .str _ | .nilp | .nilfn | .nili | .nilmap => true
  | .agg cs => AV.flatL cs
  | .tup cs => AV.flatL cs
  | .slice xs t => xs.isEmpty && (match t with | .own _ _ => false | _ => true)
  | .iface _ x => x.flat
  | .fn _ a b => AV.flatL a && AV.flatL b
  | _ => false
def AV.flatL : List AV → Bool
  | [] => true
  | x :: xs => x.flat && AV.flatL xs
end
mutual
theorem Rep.flat {g g' : Gh} {w w' : World} : ∀ (x : AV) (v : Value), x.flat = true → Rep g w x v → Rep g' w' x v
  | .undef, _, _, _ => trivial
  | .bool _, _, _, h => h
  | .int _ _, _, _, h => h
  | .str _, _, _, h => h
  | .agg cs, _, hc, ⟨vs, e, hl, h1⟩ => ⟨vs, e, RepL.flat cs _ hc hl, h1⟩
  | .tup cs, _, hc, ⟨vs, e, hl⟩ => ⟨vs, e, RepL.flat cs _ hc hl⟩
  | .slice xs t, _, hc, ⟨a, cap, sz, Vs, e, h1, h2, h3, h4, h5, h6⟩ => by
    simp only [AV.flat, Bool.and_eq_true, List.isEmpty_iff] at hc
    obtain ⟨rfl, ht⟩ := hc
    have hV : Vs = [] := h4
    subst hV
    refine ⟨a, cap, sz, [], e, h1, h2, ?_, rfl, h5, fun p hp => ⟨.inr rfl, fun i V hi => by simp at hi⟩⟩
    cases t with
    | own k z => cases ht
    | no => exact h3
    | full => exact h3
    | nil => exact h3
    | nn => exact h3
  | .ptr _ _, _, hc, _ => by cases hc
  | .rptr _, _, hc, _ => by cases hc
  | .nilp, _, _, h => h
  | .fn _ fs cs, _, hc, ⟨vs, ws, e, h1, h2⟩ => by
    simp only [AV.flat, Bool.and_eq_true] at hc
    exact ⟨vs, ws, e, RepL.flat fs _ hc.1 h1, RepL.flat cs _ hc.2 h2⟩
  | .nilfn, _, _, h => h
  | .iface _ x, _, hc, ⟨u, e, h1⟩ => ⟨u, e, Rep.flat x _ hc h1⟩
  | .nili, _, _, h => h
  | .map _, _, hc, _ => by cases hc
  | .nilmap, _, _, h => h
  | .iter _, _, hc, _ => by cases hc
  | .view _ _, _, hc, _ => by cases hc
  | .vec _ _ _ _ _, _, hc, _ => by cases hc
  | .vptr _ _ _ _ _, _, hc, _ => by cases hc
theorem RepL.flat {g g' : Gh} {w w' : World} : ∀ (cs : List AV) (vs : List Value), AV.flatL cs = true → RepL g w cs vs → RepL g' w' cs vs
  | [], _, _, h => h
  | c :: cs, _, hc, ⟨v, rest, e, h1, h2⟩ => by
    simp only [AV.flatL, Bool.and_eq_true] at hc
    exact ⟨v, rest, e, Rep.flat c _ hc.1 h1, RepL.flat cs _ hc.2 h2⟩
end

/-- All that is there is looked at as if it were never written any more. -/
def Gh.all (w : World) : Gh := ⟨[], [], fun b _ => b < w.heap.size⟩
def Look (σ : St) (x y : AV) : Prop := ∀ (g : Gh) (w : World) (v : Value), Inv g σ w → Rep g w x v → Rep (Gh.all w) w y v
def LookL (σ : St) (xs ys : List AV) : Prop := ∀ (g : Gh) (w : World) (vs : List Value), Inv g σ w → RepL g w xs vs → RepL (Gh.all w) w ys vs

theorem le_all {g : Gh} {σ : St} {w : World} (hi : Inv g σ w) : Le ⟨[], [], g.im⟩ w (Gh.all w) w := ⟨fun b o h => ⟨hi.imlt b o h, rfl⟩, fun _ _ h => by simp at h, fun _ _ h => by simp at h⟩
theorem LookL.nil {σ : St} : LookL σ [] [] := fun _ _ _ _ h => h
theorem LookL.cons {σ : St} {x y : AV} {xs ys : List AV} (h : Look σ x y) (hs : LookL σ xs ys) : LookL σ (x :: xs) (y :: ys) := fun g w _ hi ⟨v, rest, e, h1, h2⟩ => ⟨v, rest, e, h g w v hi h1, hs g w rest hi h2⟩
theorem Look.closed {σ : St} {x : AV} (h : x.closed = true) : Look σ x x := fun g w v hi hr => Rep.mono (le_all hi) _ _ (Rep.close (bx := g.bx) (tk := g.tk) (im := g.im) x v h hr)
theorem LookL.closed {σ : St} {xs : List AV} (h : AV.closedL xs = true) : LookL σ xs xs := fun g w v hi hr => RepL.mono (le_all hi) _ _ (RepL.close (bx := g.bx) (tk := g.tk) (im := g.im) xs v h hr)
theorem Look.weak {σ : St} {x y z : AV} (h : Weak x y) (k : Look σ y z) : Look σ x z := fun g w v hi hr => k g w v hi (h g w v hr)
/-- A slice that may be written. -/
theorem Look.vec {σ : St} {k z n lo hi : Nat} {xs ys : List AV} (hT : σ.T[k]? = some (.vec xs)) (hn : xs.length = n) (h : LookL σ xs ys) : Look σ (.vec k z n lo hi) (.slice ((ys.take hi).drop lo) .no) := fun g w v hI hr => by
  obtain ⟨r, Vs, hv⟩ := vec_at hI hr hT hn
  obtain ⟨a, cap, rfl, h1, h2, h3, h4, h5, r0, hr0, hz, hle, h6⟩ := hr
  have : r0 = r := Option.some.inj (hr0.symm.trans hv.hr)
  subst this
  obtain ⟨l1, l2, l3⟩ := h6 (by rw [hv.n, hn])
  have hvl : Vs.length = n := by rw [hv.len, hn]
  refine ⟨a, cap - lo, z, (Vs.take hi).drop lo, ?_, ?_, by omega, trivial, ((h g w _ hI hv.rep).take hi).drop lo, fun e => ?_, fun q hq => ?_⟩
  · have : ((Vs.take hi).drop lo).length = hi - lo := by simp; omega
    rw [this]
  · simp; omega
  · have hcl : ¬ lo < cap := fun hc => by obtain ⟨b, o, hh⟩ := h5 hc; rw [e] at hh; cases hh
    have hnil : (Vs.take hi).drop lo = [] := by apply List.eq_nil_of_length_eq_zero; simp; omega
    exact ⟨hnil, by omega⟩
  · by_cases hlc : lo < cap
    · obtain ⟨p, hp, hps, hpa⟩ := l3 hlc
      rw [hq] at hpa
      cases hpa
      refine ⟨.inl rfl, fun i V hi' => ?_⟩
      rw [List.getElem?_drop] at hi'
      have hV : Vs[lo + i]? = some V := by
        rw [List.getElem?_take] at hi'
        split at hi'
        · exact hi'
        · cases hi'
      obtain ⟨m1, m2⟩ := (hv.mem p hp).2 (lo + i) V hV
      refine ⟨m1, fun j x hj => ?_⟩
      obtain ⟨_, m3, m4⟩ := m2 j x hj
      have hadd : p.off + (lo + i) * z + j = p.off + lo * z + i * z + j := by rw [Nat.add_mul]; omega
      rw [hadd] at m3
      refine ⟨?_, m3, m4⟩
      show p.block < w.heap.size
      unfold World.cell? at m3
      cases hb : w.heap[p.block]? with
      | none => simp [hb] at m3
      | some o => exact (Array.getElem?_eq_some_iff.1 hb).1
    · have hnil : (Vs.take hi).drop lo = [] := by apply List.eq_nil_of_length_eq_zero; simp; omega
      rw [hnil]
      exact ⟨.inr rfl, fun i V hi => by simp at hi⟩
/-- A whole object, behind a pointer. -/
theorem Look.ptr {σ : St} {i : Nat} {cs ds : List AV} (hB : σ.B[i]? = some (.cells cs)) (h : LookL σ cs ds) : Look σ (.ptr i 0) (.rptr (.agg ds)) := fun g w v hI hr => by
  obtain ⟨b, hb, rfl⟩ := hr
  obtain ⟨vals, ty, h1, h2, h3⟩ := hI.ob i b _ hb hB
  have hlt : b < w.heap.size := (Array.getElem?_eq_some_iff.1 h1).1
  refine ⟨b, 0, .agg vals, rfl, fun j u hj => ⟨hlt, ?_, h3 u (by have hj2 : vals[j]? = some u := hj; simpa using Array.mem_of_getElem? hj2)⟩, vals, rfl, h g w _ hI h2, h3⟩
  have hj' : vals[j]? = some u := hj
  unfold World.cell?
  rw [h1]
  simpa using hj'

section rules
variable {P : Program} {all : Array Oper} {draw : Bool} {K : AX → Slots → St → Prop} {rest : List Oper} {acc : List Tag} {s : Slots} {σ : St}
variable {d : Option Tmp} {ty : TypeId} {pos : String} {af : Array Edge}

/-- A call that only looks, and tells what refers to no memory. -/
theorem A.callB {f : FuncId} {args : Array Operand} {tys : Array TypeId} {vals vals' : List AV} {r : AV} (ha : evsK s args.toList some = some vals) (hp : PFn P f vals' r) (hl : LookL σ vals vals') (hr : r.flat = true)
    (k : AOps P all draw K rest (.all :: acc) (putS d r s) σ) : AOps P all draw K (⟨d, .call ⟨.value (.func f), args, tys⟩, ty, pos, af, none⟩ :: rest) acc s σ :=
  A.step (t := .all) (σ' := σ) rfl (by
    intro g w a next Q hI ho hn
    have hv : args.toList.map (ev s) = vals := Option.some.inj (evsK_spec _ _ _ ha)
    have hla := repL_map (g := g) (w := w) (s := s) (a := a) args.toList (fun x hx => ho x (by simpa [Op.operands, Call.operands] using .inr (by simpa using hx)))
    rw [hv] at hla
    have hl2 : RepL ⟨[], [], fun b _ => b < w.heap.size⟩ w vals' (args.map a.eval).toList := by
      rw [Array.toList_map]
      exact hl g w _ hI hla
    unfold Oper.wp
    rw [run_call_func hp.1 a w]
    show Calls P f (args.map a.eval) w _
    refine (hp.2.2 (fun b _ => b < w.heap.size) w _ (fun b o h => h) (hI.gl.mono fun b o h => ⟨hI.imlt b o h, rfl⟩) hl2).mono ?_
    rintro e w' ⟨im', h1, h2, u, rfl, h3⟩
    have hx : Ext ⟨[], [], g.im⟩ w ⟨[], [], g.im⟩ w' := by
      refine ⟨⟨fun b o h => ⟨h, (h1.frc b o (hI.imlt b o h) (by simp) (fun k r h => by simp at h)).1⟩, fun _ _ h => by simp at h, fun _ _ h => by simp at h⟩, h1.size, h1.os, h1.tape, h1.output, h1.fr, h1.frc, fun b o h => .inl h, fun b h => by simp at h, fun k r h => by simp at h⟩
    obtain ⟨h4, h5⟩ := bare_ext hI hx (fun b o h => Nat.lt_of_lt_of_le (hI.imlt b o h) h1.size)
    exact hn u w' _ h4 h5 (Rep.flat _ _ hr h3)) k

/-- A call that is handed some of the caller's objects and tokens (bs, ts), and hands back new ones. -/
theorem A.callR {f : FuncId} {args : Array Operand} {tys : Array TypeId} {vals vals0 : List AV} {B0 B1 B' : List Ob} {T0 T1 T' : List Tok} {v0 v : AV} {nB nT : Nat} (bs ts : List Nat) (ha : evsK s args.toList some = some vals)
    (hp : AFn P f vals0 ⟨B0, T0⟩ (fun e σ1 => e = .ret v0 ∧ σ1 = ⟨B1, T1⟩)) (hnB : σ.B.length = nB) (hnT : σ.T.length = nT) (hsb : Sel nB bs) (hst : Sel nT ts) (hB0 : B0.length = bs.length) (hT0 : T0.length = ts.length)
    (hob : ∀ (k i : Nat) (ob : Ob), bs[k]? = some i → B0[k]? = some ob → σ.B[i]? = some (ob.ren (emb nB bs) (emb nT ts))) (htk : ∀ (k i : Nat) (t : Tok), ts[k]? = some i → T0[k]? = some t → σ.T[i]? = some (t.ren (emb nB bs) (emb nT ts)))
    (hlB : belowB bs.length ts.length B0 = true) (hlT : belowT bs.length ts.length T0 = true) (hla : AV.lowL bs.length ts.length vals0 = true) (hw : WeakL vals (AV.renL (emb nB bs) (emb nT ts) vals0))
    (hv : v0.ren (emb nB bs) (emb nT ts) = v) (hB' : merge σ.B bs (B1.map (Ob.ren (emb nB bs) (emb nT ts))) = B') (hT' : merge σ.T ts (T1.map (Tok.ren (emb nB bs) (emb nT ts))) = T')
    (k : AOps P all draw K rest (.all :: acc) (putS d v s) ⟨B', T'⟩) : AOps P all draw K (⟨d, .call ⟨.value (.func f), args, tys⟩, ty, pos, af, none⟩ :: rest) acc s σ :=
  A.step (t := .all) (σ' := ⟨B', T'⟩) rfl (by
    intro g w a next Q hI ho hn
    subst hnB; subst hnT
    have hvv : args.toList.map (ev s) = vals := Option.some.inj (evsK_spec _ _ _ ha)
    have hl := repL_map (g := g) (w := w) (s := s) (a := a) args.toList (fun x hx => ho x (by simpa [Op.operands, Call.operands] using .inr (by simpa using hx)))
    rw [hvv] at hl
    obtain ⟨p1, p2, p3, p4⟩ := pick_inv hI hsb hst hB0 hT0 hob htk hlB hlT
    have hl2 : RepL (g.pick bs ts) w vals0 (args.map a.eval).toList := by
      rw [Array.toList_map]
      exact RepL.unren p2 vals0 _ (by rw [p3, p4]; exact hla) (hw _ _ _ hl)
    unfold Oper.wp
    rw [run_call_func hp.1 a w]
    show Calls P f (args.map a.eval) w _
    refine (hp.2 _ w _ p1 hl2).mono ?_
    rintro e w' ⟨g1, σ1, x, h1, h2, h3, rfl, rfl⟩
    obtain ⟨u, rfl, hu⟩ := h3
    obtain ⟨g', e1, e2, e3⟩ := join_inv hI hsb hst p3 p4 p2 h1 h2
    rw [hB', hT'] at e2
    exact hn u w' g' e1 e2 (by rw [← hv]; exact Rep.ren e3 _ _ hu)) k

/-- A call that panics, of plain data. -/
def PPan (P : Program) (f : FuncId) (args : List AV) (x : AV) : Prop :=
  Callable P f ∧ AV.closedL args = true ∧ ∀ (im : Nat → Nat → Prop) (w : World) (vals : Array Value), (∀ b o, im b o → b < w.heap.size) → GlobOk im w → RepL ⟨[], [], im⟩ w args vals.toList →
    Calls P f vals w fun e w' => ∃ im', Ext ⟨[], [], im⟩ w ⟨[], [], im'⟩ w' ∧ (∀ b o, im' b o → b < w'.heap.size) ∧ ∃ u, e = .panicked [{ v := u, recovered := false }] ∧ Rep ⟨[], [], im'⟩ w' x u

theorem AFn.plainPan {f : FuncId} {args : List AV} {r : AV} (hc : r.closed = true) (ha : AV.closedL args = true) (h : AFn P f args ⟨[], []⟩ (fun e _ => e = .pan r)) : PPan P f args r := by
  refine ⟨h.1, ha, fun im w vals him hgl hl => ?_⟩
  have hi : Inv ⟨[], [], im⟩ ⟨[], []⟩ w := ⟨rfl, rfl, fun i b ob h => by simp at h, List.nodup_nil, fun b h => by simp at h, fun k t r h => by simp at h, fun k r h => by simp at h,
    fun k k' r r' _ h => by simp at h, him, hgl⟩
  refine (h.2 _ w vals hi hl).mono ?_
  rintro e w' ⟨g', σ', x, h1, h2, h3, rfl⟩
  obtain ⟨u, rfl, hu⟩ := h3
  obtain ⟨bx', tk', im'⟩ := g'
  exact ⟨im', ⟨⟨h1.le.im, fun i b h => by simp at h, fun k r h => by simp at h⟩, h1.size, h1.os, h1.tape, h1.output, h1.fr, h1.frc, h1.newim, fun b h => by simp at h, fun k r h => by simp at h⟩, h2.imlt, u, rfl, Rep.close r u hc hu⟩

theorem A.callP {f : FuncId} {args : Array Operand} {tys : Array TypeId} {vals vals' : List AV} {x : AV} (ha : evsK s args.toList some = some vals) (hp : PPan P f vals' x) (hw : WeakL vals vals')
    (k : K (.pan x) s σ) : AOps P all false K (⟨d, .call ⟨.value (.func f), args, tys⟩, ty, pos, af, none⟩ :: rest) acc s σ :=
  .inr (.inr ⟨rfl, rfl, x, σ, (by
    intro g w a next Q hI ho hn
    have hv : args.toList.map (ev s) = vals := Option.some.inj (evsK_spec _ _ _ ha)
    have hl := repL_map (g := g) (w := w) (s := s) (a := a) args.toList (fun x hx => ho x (by simpa [Op.operands, Call.operands] using .inr (by simpa using hx)))
    rw [hv] at hl
    have hl2 : RepL ⟨[], [], g.im⟩ w vals' (args.map a.eval).toList := by
      rw [Array.toList_map]
      exact RepL.close (bx := g.bx) (tk := g.tk) _ _ hp.2.1 (hw _ _ _ hl)
    unfold Oper.wp
    rw [run_call_func hp.1 a w]
    show Calls P f (args.map a.eval) w _
    refine (hp.2.2 g.im w _ hI.imlt hI.gl hl2).mono ?_
    rintro e w' ⟨im', h1, h2, u, rfl, h3⟩
    obtain ⟨h4, h5⟩ := bare_ext hI h1 h2
    exact hn u w' _ h4 h5 (Rep.mono (g := ⟨[], [], im'⟩) (w := w') (g' := ⟨g.bx, g.tk, im'⟩) (w' := w') ⟨fun _ _ h => ⟨h, rfl⟩, fun _ _ h => by simp at h, fun _ _ h => by simp at h⟩ _ _ h3)), k⟩)

theorem A.panic {x : Operand} {t : TypeId} {v : AV} (hx : ev? s x = some (.iface t v)) (k : K (.pan (.iface t v)) s σ) : AOps P all false K (⟨d, .panic x, ty, pos, af, none⟩ :: rest) acc s σ :=
  .inr (.inr ⟨rfl, rfl, .iface t v, σ, (by
    intro g w a next Q hI ho hn
    have h1 : Rep g w (.iface t v) (a.eval x) := by have := ho x (by simp [Op.operands]); rwa [ev_of hx] at this
    have h2 := h1
    obtain ⟨u, e, hu⟩ := h1
    unfold Oper.wp
    have hrun : (execOp a.eval ⟨d, .panic x, ty, pos, af, none⟩).run P w = .halt (.panic (.iface t u)) w := by
      simp [execOp, Instr.panic, e, goPanic]
    rw [hrun]
    rw [e] at h2
    exact hn _ w g (Ext.refl g w) hI h2), k⟩)

theorem A.makeIface [Lay P] {d : Tmp} {T : TypeId} {x : Operand} {v : AV} {ti : TI} (hT : ty? P T = some ti) (hk : ti.kind ≠ .iface) (hx : ev? s x = some v) (k : AOps P all draw K rest (.pure :: acc) ((d, .iface T v) :: s) σ) :
    AOps P all draw K (⟨some d, .makeInterface T x, ty, pos, af, none⟩ :: rest) acc s σ :=
  A.step rfl (tpure fun g w a ho => by
    have h1 := op1 hx (by simp [Op.operands]) ho
    obtain ⟨info, dd, z0, t1, t2, t3, t4, _⟩ := (ty_ok hT).ex
    refine ⟨.iface T (a.eval x), ?_, _, rfl, h1⟩
    have : ∀ ms, dd ≠ .interface ms := fun ms e => by subst e; exact hk t3.symm
    cases dd <;> first | (exact absurd rfl (this _)) | simp [execOp, Instr.makeInterface, run_underlying t2, Result.andThen]) k

theorem run_ne_nili {T : TypeId} {ms : Array (String × TypeId)} (h : P.underlying T = some (.interface ms)) {u : Value} {b : Bool} (hu : (u = .nilIface ∧ b = true) ∨ (∃ t v, u = .iface t v) ∧ b = false) (n : Nat) (w : World) : (Op.equalIn (n + 1) T u .nilIface).run P w = .ok b w := by
  rcases hu with ⟨rfl, rfl⟩ | ⟨⟨t, v, rfl⟩, rfl⟩ <;> simp [Op.equalIn, run_underlying h, Result.andThen]
theorem A.nenil [Lay P] {d : Tmp} {T U : TypeId} {x : Operand} {v : AV} {b : Bool} {ti : TI} (hT : ty? P T = some ti) (hk : ti.kind = .iface) (hx : ev? s x = some v) (hv : (match v with | .nili => some false | .iface _ _ => some true | _ => none) = some b) (k : AOps P all draw K rest (.pure :: acc) ((d, .bool b) :: s) σ) :
    AOps P all draw K (⟨some d, .binOp .neq T x (.const .nilIface) U, ty, pos, af, none⟩ :: rest) acc s σ :=
  A.step rfl (tpure fun g w a ho => by
    have h1 := op1 hx (by simp [Op.operands]) ho
    obtain ⟨info, dd, z0, t1, t2, t3, t4, _⟩ := (ty_ok hT).ex
    have hd : ∃ ms, dd = .interface ms := by rw [hk] at t3; cases dd <;> first | exact ⟨_, rfl⟩ | cases t3
    obtain ⟨ms, rfl⟩ := hd
    have ec : a.eval (.const .nilIface) = .nilIface := rfl
    refine ⟨.bool b, ?_, rfl⟩
    cases v with
    | nili =>
      cases hv
      have e : a.eval x = .nilIface := h1
      have h3 : (Op.equal T .nilIface .nilIface).run P w = .ok true w := run_ne_nili t2 (.inl ⟨rfl, rfl⟩) 9999 w
      simp [execOp, e, ec, eqGuard, Go.binOp, h3, Result.andThen]
    | iface t v =>
      cases hv
      obtain ⟨u, e, _⟩ := h1
      have h3 : (Op.equal T (.iface t u) .nilIface).run P w = .ok false w := run_ne_nili t2 (.inr ⟨⟨t, u, rfl⟩, rfl⟩) 9999 w
      simp [execOp, e, ec, eqGuard, Go.binOp, h3, Result.andThen]
    | _ => cases hv) k
end rules
end Go.Av
