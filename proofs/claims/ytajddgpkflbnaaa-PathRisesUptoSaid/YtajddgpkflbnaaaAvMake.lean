/-
  make, parts that remember what lies behind them, equality of structs.
-/
import Derived.Test.YtajddgpkflbnaaaAvRet
import Derived.Laws.MakeOwn
set_option linter.unusedVariables false
namespace Go.Av
open Go
set_option linter.unusedSectionVars false
variable [Globals]

section rules
variable {P : Program} [Lay P] {all : Array Oper} {draw : Bool} {K : AX → Slots → St → Prop} {rest : List Oper} {acc : List Tag} {s : Slots} {σ : St}
variable {d : Tmp} {ty : TypeId} {pos : String} {af : Array Edge}

/-- make of an empty slice with room. -/
theorem A.make0 {T : TypeId} {x y : Operand} {kl kc : IntKind} {m : Int} {n k : Nat} {ti te : TI} {T' : List Tok} (hT : ty? P T = some ti) (hk : ti.kind = .slice) (hE : ty? P ti.elem = some te)
    (hx : ev? s x = some (.int kl 0)) (hy : ev? s y = some (.int kc m)) (hm : m = (n : Int)) (hb : te.bytes * n ≤ 281474976710656) (hb' : n ≤ 9223372036854775807) (hkk : smallLen σ.T = some k) (hT' : snocK σ.T (.len 0) some = some T')
    (kk : AOps P all draw K rest (.tk :: acc) ((d, .slice [] (.own k te.size)) :: s) ⟨σ.B, T'⟩) : AOps P all draw K (⟨some d, .makeSlice T x y, ty, pos, af, none⟩ :: rest) acc s σ :=
  A.step (t := .tk) (σ' := ⟨σ.B, T'⟩) rfl ⟨rfl, fun B => by
    intro g w a next Q hI ho hn'
    have h1 : a.eval x = .int kl 0 := op1 hx (by simp [Op.operands]) ho
    have h2 : a.eval y = .int kc m := op1 hy (by simp [Op.operands]) ho
    obtain ⟨info, dd, z0, t1, t2, t3, t4, _⟩ := (ty_ok hT).ex
    have hd : ∃ e, dd = .slice e := by rw [hk] at t3; cases dd <;> first | exact ⟨_, rfl⟩ | cases t3
    obtain ⟨el, rfl⟩ := hd
    have hel : el = ti.elem := t4
    subst hel
    obtain ⟨ie, de, ze, u1, u2, u3, u4, u5, u6, u7, u8, u9, u10, u11, u12, u13⟩ := (ty_ok hE).ex
    have hkl : σ.T.length = k := smallLen_spec hkk
    have hTe : σ.T ++ [Tok.len 0] = T' := Option.some.inj (snocK_spec _ _ _ _ hT')
    subst hm
    have hrun := run_make (P := P) w T ti.elem ie ze t2 u1 u8 kl kc 0 (n : Int) (Int.le_refl _) (by omega) (by rw [u7, ← Int.natCast_mul]; omega) (by omega)
    have hnn : ((n : Int)).toNat = n := by simp
    rw [hnn] at hrun
    have hsz : n * te.size = (madeCells ze.cells (n * ie.size)).size := by rw [u6]; simp [madeCells]
    have hgl : g.tk.length = σ.T.length := hI.lenT
    obtain ⟨g', e1, e2, e3, e4⟩ := grow_new (σ := ⟨B, σ.T⟩) hI (madeCells ze.cells (n * ie.size)) ti.elem (k := σ.T.length) (n := 0) (sz := te.size) (cap := n) hsz (Nat.zero_le _) (old := none) (by rw [← hgl]; simp) (by omega) (fun r h => by cases h) (T' := T')
      (.inr ⟨rfl, hTe.symm⟩)
    unfold Oper.wp
    have hrun' : (execOp a.eval ⟨some d, .makeSlice T x y, ty, pos, af, none⟩).run P w = .ok (.value (.slice (some ⟨w.heap.size, 0, none⟩) 0 n)) (pushW w (.cells (madeCells ze.cells (n * ie.size)) ti.elem)) := by
      simp only [execOp, h1, h2, Sem.run_bind, hrun, Result.andThen, Sem.run_pure]
      rfl
    rw [hrun']
    refine hn' _ _ g' e2 e3 ⟨some ⟨w.heap.size, 0, none⟩, n, te.size, [], rfl, Nat.zero_le _, ?_, ?_, rfl, (fun h => by cases h), fun p hp => ⟨.inr rfl, fun i V hi => by simp at hi⟩⟩
    · unfold maxLen; omega
    · rw [← hkl]
      exact ⟨.inr rfl, _, e1.get, rfl, Nat.zero_le _, fun _ => ⟨rfl, rfl, .inr fun p hp => by cases hp; rfl⟩⟩⟩ kk

/-- A part of a slice from its begin on that remembers what lies behind it. -/
theorem A.slice_v {T : TypeId} {x : Operand} {hi : Option Operand} {xs : List AV} {tk : Tk} {nh : Int} {ti te : TI} (h : Nat) (hT : ty? P T = some ti) (hk : ti.kind = .slice) (hE : ty? P ti.elem = some te)
    (hx : ev? s x = some (.slice xs tk)) (hh : bnd? s hi xs.length = some nh) (eh : nh = (h : Int)) (h2 : h ≤ xs.length)
    (k : AOps P all draw K rest (.pure :: acc) ((d, .view xs h) :: s) σ) : AOps P all draw K (⟨some d, .slice T x none hi none, ty, pos, af, none⟩ :: rest) acc s σ :=
  A.step rfl (tpure fun g w a ho => by
    obtain ⟨p, cap, sz, Vs, e, c1, c2, c3, hlr, c5, c6⟩ := op1 hx (by simp [Op.operands]) ho
    obtain ⟨info, dd, z0, t1, t2, t3, t4, _⟩ := (ty_ok hT).ex
    have hd : ∃ e, dd = .slice e := by rw [hk] at t3; cases dd <;> first | exact ⟨_, rfl⟩ | cases t3
    obtain ⟨elm, rfl⟩ := hd
    have hel : elm = ti.elem := t4
    subst hel
    have hvl : Vs.length = xs.length := hlr.length
    refine ⟨.slice p h cap, ?_, p, cap, sz, Vs, rfl, by omega, c1, c2, hlr, c5, c6⟩
    have hp0 : (if cap = 0 then p else p.map (·.add (0 * te.size))) = p := by
      split
      · rfl
      · cases p with
        | none => rfl
        | some q => simp [Addr.add]
    have hhi : ∀ y, hi = some y → (Instr.sliceBound (a.eval y) cap .sliceAcap).run P w = .ok h w := by
      intro y hy0
      subst hy0
      obtain ⟨ik, hy⟩ := bnd_some hh
      have hyv : a.eval y = .int ik nh := op1 hy (by simp [Op.operands]) ho
      have hb : 0 ≤ (h : Int) ∧ (h : Int) ≤ (cap : Int) := by omega
      simp only [Instr.sliceBound, hyv, asIntOf, eh, Sem.run_bind, Sem.run_pure, Result.andThen]
      rw [if_pos hb]
      simp
    cases hi with
    | none =>
      have h00 : (xs.length : Int) = nh := Option.some.inj hh
      have hh0 : h = Vs.length := by omega
      subst hh0
      simp [execOp, e, Instr.sliceAt, run_underlying t2, Result.andThen, Instr.slice, Instr.sliceBounds, run_sizeOf' hE, Addr.add]
    | some y =>
      have := hhi y rfl
      simp [execOp, e, Instr.sliceAt, run_underlying t2, Result.andThen, Instr.slice, Instr.sliceBounds, run_sizeOf' hE, this, Addr.add]) k

/-- The same of a part that remembers. -/
theorem A.view_slice {T : TypeId} {x : Operand} {hi : Option Operand} {xs : List AV} {n0 : Nat} {nh : Int} {ti te : TI} (h : Nat) (hT : ty? P T = some ti) (hk : ti.kind = .slice) (hE : ty? P ti.elem = some te)
    (hx : ev? s x = some (.view xs n0)) (hh : bnd? s hi n0 = some nh) (eh : nh = (h : Int)) (h2 : h ≤ xs.length)
    (k : AOps P all draw K rest (.pure :: acc) ((d, .view xs h) :: s) σ) : AOps P all draw K (⟨some d, .slice T x none hi none, ty, pos, af, none⟩ :: rest) acc s σ :=
  A.step rfl (tpure fun g w a ho => by
    obtain ⟨p, cap, sz, Vs, e, c0, c1, c2, hlr, c5, c6⟩ := op1 hx (by simp [Op.operands]) ho
    obtain ⟨info, dd, z0, t1, t2, t3, t4, _⟩ := (ty_ok hT).ex
    have hd : ∃ e, dd = .slice e := by rw [hk] at t3; cases dd <;> first | exact ⟨_, rfl⟩ | cases t3
    obtain ⟨elm, rfl⟩ := hd
    have hel : elm = ti.elem := t4
    subst hel
    have hvl : Vs.length = xs.length := hlr.length
    refine ⟨.slice p h cap, ?_, p, cap, sz, Vs, rfl, by omega, c1, c2, hlr, c5, c6⟩
    have hhi : ∀ y, hi = some y → (Instr.sliceBound (a.eval y) cap .sliceAcap).run P w = .ok h w := by
      intro y hy0
      subst hy0
      obtain ⟨ik, hy⟩ := bnd_some hh
      have hyv : a.eval y = .int ik nh := op1 hy (by simp [Op.operands]) ho
      have hb : 0 ≤ (h : Int) ∧ (h : Int) ≤ (cap : Int) := by omega
      simp only [Instr.sliceBound, hyv, asIntOf, eh, Sem.run_bind, Sem.run_pure, Result.andThen]
      rw [if_pos hb]
      simp
    cases hi with
    | none =>
      have h00 : (n0 : Int) = nh := Option.some.inj hh
      have hh0 : h = n0 := by omega
      subst hh0
      simp [execOp, e, Instr.sliceAt, run_underlying t2, Result.andThen, Instr.slice, Instr.sliceBounds, run_sizeOf' hE, Addr.add]
    | some y =>
      have := hhi y rfl
      simp [execOp, e, Instr.sliceAt, run_underlying t2, Result.andThen, Instr.slice, Instr.sliceBounds, run_sizeOf' hE, this, Addr.add]) k
end rules

theorem WeakL.eq {xs ys : List AV} (h : xs = ys) : WeakL xs ys := h ▸ WeakL.refl xs
theorem Weak.view {xs : List AV} {n : Nat} : Weak (.view xs n) (.slice (xs.take n) .no) := by
  rintro g w _ ⟨a, cap, sz, Vs, rfl, h0, h1, h2, h3, h4, h5⟩
  have hl : (Vs.take n).length = n := by simp; omega
  refine ⟨a, cap, sz, Vs.take n, by rw [hl], by rw [hl]; omega, h2, trivial, h3.take n, fun e => ?_, fun p hp => ⟨?_, fun i V hi => ?_⟩⟩
  · have := h4 e; exact ⟨by rw [this.1]; simp, this.2⟩
  · rcases (h5 p hp).1 with h | h
    · exact .inl h
    · right; rw [h]; simp
  · rw [List.getElem?_take] at hi
    split at hi
    · exact (h5 p hp).2 i V hi
    · cases hi

section rules
variable {P : Program} [Lay P] {all : Array Oper} {draw : Bool} {K : AX → Slots → St → Prop} {rest : List Oper} {acc : List Tag} {s : Slots} {σ : St}
variable {d : Tmp} {ty : TypeId} {pos : String} {af : Array Edge}
theorem A.index_v {T : TypeId} {x i : Operand} {xs : List AV} {n0 : Nat} {ik : IntKind} {n : Int} {j : Nat} {y : AV} {ti te : TI} (hT : ty? P T = some ti) (hk : ti.kind = .slice) (hE : ty? P ti.elem = some te)
    (hx : ev? s x = some (.view xs n0)) (hi : ev? s i = some (.int ik n)) (hj : n = (j : Int)) (hlt : j < n0) (hy : xs[j]? = some y) (hf : fits te.agg te.size y = true)
    (k : AOps P all draw K rest (.pure :: acc) ((d, .rptr y) :: s) σ) : AOps P all draw K (⟨some d, .indexAddr T x i, ty, pos, af, none⟩ :: rest) acc s σ :=
  A.step rfl (tpure fun g w a ho => by
    have h1 := Weak.view _ _ _ (op1 hx (by simp [Op.operands]) ho)
    have h2 : a.eval i = .int ik n := op1 hi (by simp [Op.operands]) ho
    exact index_run hT hk hE hj (by rw [List.getElem?_take_of_lt hlt]; exact hy) hf h1 h2) k
theorem A.len_v {T : TypeId} {x : Operand} {xs : List AV} {n0 : Nat} {n : Int} {ti : TI} (hT : ty? P T = some ti) (hk : ti.kind = .slice) (hx : ev? s x = some (.view xs n0)) (hn : (n0 : Int) = n)
    (k : AOps P all draw K rest (.pure :: acc) ((d, .int .i64 n) :: s) σ) : AOps P all draw K (⟨some d, .call ⟨.builtin .len, #[x], #[T]⟩, ty, pos, af, none⟩ :: rest) acc s σ :=
  A.step rfl (tpure fun g w a ho => by
    have h1 := op1 hx (by simp [Op.operands, Call.operands]) ho
    obtain ⟨p, cap, sz, Vs, e, _⟩ := h1
    refine ⟨.int .i64 n0, ?_, by rw [hn]; rfl⟩
    obtain ⟨info, dd, z, t1, t2, t3, _⟩ := (ty_ok hT).ex
    have hd : ∃ e, dd = .slice e := by rw [hk] at t3; cases dd <;> first | exact ⟨_, rfl⟩ | cases t3
    obtain ⟨el, rfl⟩ := hd
    simp [execOp, resolve, invoke, builtin, Builtin.len_, e, run_underlying t2, goInt, Result.andThen]) k
end rules

/-- Ahead of a piece of code less is said of a slot. -/
theorem HCode.less {P : Program} {N : Nat} {D : List Deferred} {c : Code} {K : AX → Slots → St → Prop} {s : Slots} {σ : St} (tm : Nat) {x y : AV} (hx : lk? s tm = some x) (hw : Weak x y) (h : HCode P N D c K ((tm, y) :: s) σ) : HCode P N D c K s σ := fun g w a hi hs ha hd =>
  h g w a hi (fun u => by
    unfold lk
    cases e : Nat.beq tm u with
    | true =>
      have := Nat.eq_of_beq_eq_true e
      subst this
      have h1 := hs tm
      rw [lk_of hx] at h1
      exact hw _ _ _ h1
    | false => exact hs u) ha hd

theorem set_same {α : Type} : ∀ {l : List α} {j : Nat} {u : α}, l[j]? = some u → l.set j u = l
  | x :: l, 0, u, h => by simp at h; subst h; rfl
  | x :: l, j + 1, u, h => by
    have := set_same (l := l) (j := j) (u := u) (by simpa using h)
    simp [this]
  | [], _, _, h => by simp at h
/-- A slice without room in an object is taken for the walk's own. -/
theorem HCode.adoptB {P : Program} {N : Nat} {D : List Deferred} {c : Code} {K : AX → Slots → St → Prop} {s : Slots} {σ : St} (i j : Nat) (agg : Bool) (z : Nat) {cs : List AV} {xs : List AV} {t : Tk} {k n : Nat} {B' : List Ob} {T' : List Tok} (hB : σ.B[i]? = some (.cells cs)) (hx : cs[j]? = some (.slice xs t))
    (ht : t.fresh = true) (hf : fitsAll agg z xs = true) (hk : smallLen σ.T = some k) (hn : xs.length = n) (hT' : snocK σ.T (.len n) some = some T') (hB' : σ.B.set i (.cells (cs.set j (.slice xs (.own k z)))) = B') (h : HCode P N D c K s ⟨B', T'⟩) : HCode P N D c K s σ := fun g w a hi hs ha hd => by
  have hlt : i < g.bx.length := by rw [hi.lenB]; exact (List.getElem?_eq_some_iff.1 hB).1
  have hb : g.bx[i]? = some g.bx[i] := List.getElem?_eq_getElem hlt
  obtain ⟨vals, ty, q1, q2, q3⟩ := hi.ob i _ _ hb hB
  obtain ⟨u, hu, hr⟩ := q2.get hx
  obtain ⟨g1, e1, e2, e3⟩ := adopt_sem ht hf hi hr
  have hkl : σ.T.length = k := smallLen_spec hk
  have hTe : σ.T ++ [Tok.len n] = T' := Option.some.inj (snocK_spec _ _ _ _ hT')
  rw [hn, hTe] at e2
  rw [hkl] at e3
  have hI : Inv g1 ⟨B', T'⟩ w := by
    refine ⟨by rw [e2.lenB, ← hB']; simp, e2.lenT, fun i' b' ob' h1 h2 => ?_, e2.nodup, e2.noim, e2.tok, e2.tkz, e2.tkd, e2.imlt, e2.gl⟩
    by_cases e : i = i'
    · subst e
      have hb1 := e1.le.bx _ _ hb
      rw [hb1] at h1
      cases h1
      have h2' : ob' = .cells (cs.set j (.slice xs (.own k z))) := by
        have : i < σ.B.length := (List.getElem?_eq_some_iff.1 hB).1
        rw [← hB'] at h2
        simpa [this] using h2.symm
      subst h2'
      obtain ⟨vals', ty', p1, p2, p3⟩ := e2.ob i _ _ hb1 hB
      rw [q1] at p1
      cases p1
      refine ⟨vals, ty, q1, ?_, q3⟩
      have := RepL.set j p2 e3
      rwa [set_same hu] at this
    · refine e2.ob i' b' ob' h1 ?_
      rw [← hB'] at h2
      simpa [e] using h2
  exact wp_mono (h g1 w a hI (fun u => Rep.mono e1.le _ _ (hs u)) ha hd) fun _ _ _ hp => hp.trans e1

/-! Equality of structs of plain fields. -/
def eqCell (k : TKind) (x y : AV) : Option Bool :=
  match k, x, y with
  | .bool, .bool a, .bool b => some (a == b)
  | .int _, .int k a, .int k' b => if k = k' then some (a == b) else none
  | .string, .str a, .str b => some (a == b)
  | _, _, _ => none
def eqFs (P : Program) [Lay P] : List Field → Nat → List AV → List AV → Option Bool
  | [], _, [], [] => some true
  | f :: fs, i, x :: xs, y :: ys => match Nat.beq f.offset i, ty? P f.type with
    | true, some ti => match ti.agg, eqCell ti.kind x y, eqFs P fs (i + 1) xs ys with
      | false, some b, some r => some (b && r)
      | _, _, _ => none
    | _, _ => none
  | _, _, _, _ => none

structure EqT (P : Program) (T : TypeId) (fs : List Field) : Prop where
  u : P.underlying T = some (.struct fs.toArray)
  held : P.stoodInHeld T = false
  plain : P.eqGuardType P.depth T = false
  named : (fs.all fun f => f.name != "_") = true

section
variable {P : Program} [Lay P]
omit [Lay P] in
theorem eqCell_spec {g : Gh} {w : World} {k : TKind} {t : TypeId} {dsc : TypeDesc} {x y : AV} {u v : Value} {b : Bool} (hd : P.underlying t = some dsc) (hk : kindOf dsc = k) (h : eqCell k x y = some b) (hx : Rep g w x u) (hy : Rep g w y v) (n : Nat) :
    (Op.equalIn (n + 1) t u v).run P w = .ok b w := by
  unfold eqCell at h
  split at h
  · cases (show u = _ from hx); cases (show v = _ from hy); cases h
    cases dsc <;> first | (cases hk; done) | simp [Op.equalIn, run_underlying hd, Result.andThen]
  · cases (show u = _ from hx); cases (show v = _ from hy)
    split at h
    case isFalse => cases h
    case isTrue e =>
    subst e; cases h
    cases dsc <;> first | (cases hk; done) | simp [Op.equalIn, run_underlying hd, Result.andThen]
  · cases (show u = _ from hx); cases (show v = _ from hy); cases h
    cases dsc <;> first | (cases hk; done) | skip
    rename_i xa ya
    have e : ((⟨xa.toArray⟩ : ByteArray) == ⟨ya.toArray⟩) = (xa == ya) := by
      show (xa.toArray == ya.toArray) = (xa == ya)
      rw [Bool.eq_iff_iff, beq_iff_eq, beq_iff_eq]
      simp
    simp [Op.equalIn, run_underlying hd, Result.andThen, e]
  · cases h

theorem run_part {t : TypeId} {ti : TI} (h : ty? P t = some ti) (ha : ti.agg = false) {cs : Array Value} {off : Nat} {v : Value} (hv : cs[off]? = some v) (w : World) : (part t cs off).run P w = .ok v w := by
  unfold part
  simp only [Sem.run_bind, run_isAgg' h, Result.andThen, ha, Bool.false_eq_true, if_false, hv, Sem.run_pure]

theorem eqFs_spec {g : Gh} {w : World} {us vs : Array Value} (n : Nat) : ∀ (fs : List Field) (i : Nat) (xs ys : List AV) (b : Bool), (fs.all fun f => f.name != "_") = true → eqFs P fs i xs ys = some b → RepL g w xs (us.toList.drop i) → RepL g w ys (vs.toList.drop i) →
    ((forIn fs ((none : Option Bool), ()) fun f __s =>
                if f.name ≠ "_" then do
                  let a ← part f.type us f.offset
                  let c ← part f.type vs f.offset
                  let e ← Op.equalIn (n + 1) f.type a c
                  if (!e) = true then pure (ForInStep.done (some false, ()))
                    else pure (ForInStep.yield (none, ()))
                else pure (ForInStep.yield (none, ()))) : Sem (Option Bool × Unit)).run P w = .ok (if b then none else some false, ()) w
  | [], i, [], [], b, _, h, _, _ => by
    cases h
    simp
  | f :: fs, i, x :: xs, y :: ys, b, hn, h, hx, hy => by
    simp only [List.all_cons, Bool.and_eq_true] at hn
    unfold eqFs at h
    split at h
    case h_2 => cases h
    case h_1 ti e1 e2 =>
    split at h
    case h_2 => cases h
    case h_1 b1 r ea e3 e4 =>
    have ho := Nat.eq_of_beq_eq_true e1
    obtain ⟨u, ur, hu1, hu2, hu3⟩ := hx
    obtain ⟨v, vr, hv1, hv2, hv3⟩ := hy
    have gu : us[f.offset]? = some u := by
      have : (us.toList.drop i)[0]? = some u := by rw [hu1]; rfl
      rw [ho]; simpa using this
    have gv : vs[f.offset]? = some v := by
      have : (vs.toList.drop i)[0]? = some v := by rw [hv1]; rfl
      rw [ho]; simpa using this
    obtain ⟨info, dd, z0, t1, t2, t3, t4, _⟩ := (ty_ok e2).ex
    have h1 := eqCell_spec t2 t3 e3 hu2 hv2 n
    have hne : f.name ≠ "_" := by simpa using hn.1
    have d1 : us.toList.drop (i + 1) = ur := by rw [← List.drop_drop, hu1]; rfl
    have d2 : vs.toList.drop (i + 1) = vr := by rw [← List.drop_drop, hv1]; rfl
    have ih := eqFs_spec n fs (i + 1) xs ys r hn.2 e4 (by rw [d1]; exact hu3) (by rw [d2]; exact hv3)
    cases h
    rw [List.forIn_cons]
    simp only [if_pos hne, Sem.run_bind, run_part e2 ea gu, run_part e2 ea gv, h1, Result.andThen]
    cases b1 with
    | true =>
      simp only [Bool.not_true, Bool.false_eq_true, if_false, Sem.run_pure, Bool.true_and]
      exact ih
    | false => simp
  | [], _, _ :: _, _, _, _, h, _, _ => by cases h
  | [], _, [], _ :: _, _, _, h, _, _ => by cases h
  | _ :: _, _, [], _, _, _, h, _, _ => by cases h
  | _ :: _, _, _ :: _, [], _, _, h, _, _ => by cases h

theorem run_equal {T : TypeId} {fs : List Field} (hT : EqT P T fs) {g : Gh} {w : World} {xs ys : List AV} {u v : Value} {b : Bool} (h : eqFs P fs 0 xs ys = some b) (hx : Rep g w (.agg xs) u) (hy : Rep g w (.agg ys) v) : (Op.equal T u v).run P w = .ok b w := by
  obtain ⟨us, rfl, h1, _⟩ := hx
  obtain ⟨vs, rfl, h2, _⟩ := hy
  have h3 := eqFs_spec (us := us) (vs := vs) 9998 fs 0 xs ys b hT.named h (by simpa using h1) (by simpa using h2)
  unfold Op.equal Op.maxDepth
  rw [Op.equalIn]
  simp only [Sem.run_bind, run_underlying hT.u, Result.andThen, run_program, hT.held, Bool.false_eq_true, if_false, List.forIn_toArray]
  rw [h3]
  cases b <;> simp

section rules
variable {all : Array Oper} {draw : Bool} {K : AX → Slots → St → Prop} {rest : List Oper} {acc : List Tag} {s : Slots} {σ : St}
variable {d : Tmp} {ty : TypeId} {pos : String} {af : Array Edge}
omit [Lay P] in
theorem run_guard {T : TypeId} {fs : List Field} (hT : EqT P T fs) {op : BinOp} {x y : Operand} {us vs : Array Value} (w : World) : (eqGuard op T x y (.agg us) (.agg vs)).run P w = .ok () w := by
  have h : (!P.eqGuardType P.depth T) = true := by rw [hT.plain]; rfl
  cases op <;> simp [eqGuard, hT.plain]
theorem A.eqT {T U : TypeId} {x y : Operand} {xs ys : List AV} {fs : List Field} {b : Bool} (hT : EqT P T fs) (hx : ev? s x = some (.agg xs)) (hy : ev? s y = some (.agg ys)) (h : eqFs P fs 0 xs ys = some b) (k : AOps P all draw K rest (.pure :: acc) ((d, .bool b) :: s) σ) :
    AOps P all draw K (⟨some d, .binOp .eql T x y U, ty, pos, af, none⟩ :: rest) acc s σ :=
  A.step rfl (tpure fun g w a ho => by
    have h1 := op1 hx (by simp [Op.operands]) ho
    have h2 := op1 hy (by simp [Op.operands]) ho
    have h3 := run_equal hT h h1 h2
    obtain ⟨us, e1, _⟩ := h1
    obtain ⟨vs, e2, _⟩ := h2
    rw [e1, e2] at h3
    exact ⟨.bool b, by simp [execOp, e1, e2, run_guard hT, Go.binOp, h3, Result.andThen], rfl⟩) k
theorem A.neT {T U : TypeId} {x y : Operand} {xs ys : List AV} {fs : List Field} {b : Bool} (hT : EqT P T fs) (hx : ev? s x = some (.agg xs)) (hy : ev? s y = some (.agg ys)) (h : eqFs P fs 0 xs ys = some b) (k : AOps P all draw K rest (.pure :: acc) ((d, .bool (!b)) :: s) σ) :
    AOps P all draw K (⟨some d, .binOp .neq T x y U, ty, pos, af, none⟩ :: rest) acc s σ :=
  A.step rfl (tpure fun g w a ho => by
    have h1 := op1 hx (by simp [Op.operands]) ho
    have h2 := op1 hy (by simp [Op.operands]) ho
    have h3 := run_equal hT h h1 h2
    obtain ⟨us, e1, _⟩ := h1
    obtain ⟨vs, e2, _⟩ := h2
    rw [e1, e2] at h3
    exact ⟨.bool (!b), by simp [execOp, e1, e2, run_guard hT, Go.binOp, h3, Result.andThen], rfl⟩) k
theorem A.eqb {T U : TypeId} {x y : Operand} {m n : Bool} {ti : TI} (hT : ty? P T = some ti) (hk : ti.kind = .bool) (hx : ev? s x = some (.bool m)) (hy : ev? s y = some (.bool n)) (k : AOps P all draw K rest (.pure :: acc) ((d, .bool (m == n)) :: s) σ) :
    AOps P all draw K (⟨some d, .binOp .eql T x y U, ty, pos, af, none⟩ :: rest) acc s σ :=
  A.step rfl (tpure fun g w a ho => by
    have h1 : a.eval x = .bool m := op1 hx (by simp [Op.operands]) ho
    have h2 : a.eval y = .bool n := op1 hy (by simp [Op.operands]) ho
    obtain ⟨info, dd, z, t1, t2, t3, _⟩ := (ty_ok hT).ex
    rw [hk] at t3
    have h3 : (Op.equal T (.bool m) (.bool n)).run P w = .ok (m == n) w := eqCell_spec (g := ⟨[], [], fun _ _ => False⟩) (x := .bool m) (y := .bool n) t2 t3 rfl rfl rfl 9999
    exact ⟨.bool (m == n), by simp [execOp, h1, h2, eqGuard, Go.binOp, h3, Result.andThen], rfl⟩) k
theorem A.neb {T U : TypeId} {x y : Operand} {m n : Bool} {ti : TI} (hT : ty? P T = some ti) (hk : ti.kind = .bool) (hx : ev? s x = some (.bool m)) (hy : ev? s y = some (.bool n)) (k : AOps P all draw K rest (.pure :: acc) ((d, .bool (m != n)) :: s) σ) :
    AOps P all draw K (⟨some d, .binOp .neq T x y U, ty, pos, af, none⟩ :: rest) acc s σ :=
  A.step rfl (tpure fun g w a ho => by
    have h1 : a.eval x = .bool m := op1 hx (by simp [Op.operands]) ho
    have h2 : a.eval y = .bool n := op1 hy (by simp [Op.operands]) ho
    obtain ⟨info, dd, z, t1, t2, t3, _⟩ := (ty_ok hT).ex
    rw [hk] at t3
    have h3 : (Op.equal T (.bool m) (.bool n)).run P w = .ok (m == n) w := eqCell_spec (g := ⟨[], [], fun _ _ => False⟩) (x := .bool m) (y := .bool n) t2 t3 rfl rfl rfl 9999
    exact ⟨.bool (m != n), by simp [execOp, h1, h2, eqGuard, Go.binOp, h3, Result.andThen, bne], rfl⟩) k
end rules
end
end Go.Av
