/-
  More rules of single operations: numbers of other kinds, shifts, quotients, parts of texts.
-/
import Derived.MapKept
import Derived.Test.YtmfmdehfbpkgdaaGreatDoorAvVec5
import Derived.Test.YtmfmdehfbpkgdaaGreatDoorAvRen4
namespace Go.Av
open Go
set_option linter.unusedSectionVars false
set_option linter.unusedSimpArgs false
variable [Globals]
section
variable {P : Program} {all : Array Oper} {draw : Bool} {K : AX → Slots → St → Prop} {rest : List Oper} {acc : List Tag} {s : Slots} {σ : St}
variable {d : Tmp} {ty : TypeId} {pos : String} {af : Array Edge}
theorem A.shr {x y : Operand} {T U : TypeId} {k ky : IntKind} {m n r : Int} (hx : ev? s x = some (.int k m)) (hy : ev? s y = some (.int ky n)) (hn : 0 ≤ n) (hr : m.fdiv (2 ^ min n.toNat k.bits) = r)
    (k' : AOps P all draw K rest (.pure :: acc) ((d, .int k r) :: s) σ) : AOps P all draw K (⟨some d, .binOp .shr T x y U, ty, pos, af, none⟩ :: rest) acc s σ :=
  two_ops hx hy (fun g w a b ha hb => by
    cases (show a = _ from ha); cases (show b = _ from hb)
    exact ⟨.int k r, by simp [eqGuard, Go.binOp, Op.shift, Int.not_lt.2 hn, hr], rfl⟩) k'
theorem A.shl {x y : Operand} {T U : TypeId} {k ky : IntKind} {m n r : Int} (hx : ev? s x = some (.int k m)) (hy : ev? s y = some (.int ky n)) (hn : 0 ≤ n) (hr : k.wrap (m * 2 ^ min n.toNat k.bits) = r)
    (k' : AOps P all draw K rest (.pure :: acc) ((d, .int k r) :: s) σ) : AOps P all draw K (⟨some d, .binOp .shl T x y U, ty, pos, af, none⟩ :: rest) acc s σ :=
  two_ops hx hy (fun g w a b ha hb => by
    cases (show a = _ from ha); cases (show b = _ from hb)
    exact ⟨.int k r, by simp [eqGuard, Go.binOp, Op.shift, Int.not_lt.2 hn, hr], rfl⟩) k'
theorem A.quo {x y : Operand} {T U : TypeId} {k : IntKind} {m n r : Int} (hx : ev? s x = some (.int k m)) (hy : ev? s y = some (.int k n)) (hn : n ≠ 0) (hr : k.wrap (m.tdiv n) = r)
    (k' : AOps P all draw K rest (.pure :: acc) ((d, .int k r) :: s) σ) : AOps P all draw K (⟨some d, .binOp .quo T x y U, ty, pos, af, none⟩ :: rest) acc s σ :=
  two_ops hx hy (fun g w a b ha hb => by
    cases (show a = _ from ha); cases (show b = _ from hb)
    exact ⟨.int k r, by simp [eqGuard, Go.binOp, Op.intDiv, hn, hr], rfl⟩) k'
theorem A.mul64 {x y : Operand} {T U : TypeId} {m n r : Int} (hx : ev? s x = some (.int .i64 m)) (hy : ev? s y = some (.int .i64 n)) (hr : m * n = r) (hb : -9223372036854775808 ≤ r ∧ r ≤ 9223372036854775807)
    (k' : AOps P all draw K rest (.pure :: acc) ((d, .int .i64 r) :: s) σ) : AOps P all draw K (⟨some d, .binOp .mul T x y U, ty, pos, af, none⟩ :: rest) acc s σ :=
  A.mul hx hy (by rw [hr, IntWalk.i64_in r hb]; exact k')
theorem PFn.bounded {f : FuncId} {args : List AV} {r : AV} {b : Prop} (hc : Callable P f) (ha : AV.closedL args = true) (hb : ∀ (g : Gh) (w : World) (vs : List Value), RepL g w args vs → b) (h : b → PFn P f args r) : PFn P f args r :=
  ⟨hc, ha, fun im w vals him hgl hl => (h (hb _ _ _ hl)).2.2 im w vals him hgl hl⟩
theorem rep_len {g : Gh} {w : World} {xs : List AV} {t : Tk} {v : Value} (h : Rep g w (.slice xs t) v) : xs.length ≤ maxLen := by
  obtain ⟨a, cap, sz, Vs, e, h1, h2, h3, h4, _⟩ := h
  have := h4.length
  omega
variable [Lay P]
theorem kind_int {dd : TypeDesc} {k : IntKind} (h : kindOf dd = .int k) : dd = .int k := by
  cases dd with
  | int k' => simpa [kindOf] using h
  | _ => simp [kindOf] at h
theorem kind_string {dd : TypeDesc} (h : kindOf dd = .string) : dd = .string := by
  cases dd with
  | string => rfl
  | _ => simp [kindOf] at h
theorem A.conv {x : Operand} {T U : TypeId} {k ka : IntKind} {n r : Int} {tT tU : TI} (hT : ty? P T = some tT) (hU : ty? P U = some tU) (hk : tU.kind = .int k) (hx : ev? s x = some (.int ka n)) (hr : k.wrap n = r)
    (kk : AOps P all draw K rest (.pure :: acc) ((d, .int k r) :: s) σ) : AOps P all draw K (⟨some d, .convert T U x, ty, pos, af, none⟩ :: rest) acc s σ :=
  A.step rfl (tpure fun g w a ho => by
    have h1 : a.eval x = .int ka n := op1 hx (by simp [Op.operands]) ho
    obtain ⟨_, d1, _, _, t2, _⟩ := (ty_ok hT).ex
    obtain ⟨_, d2, _, _, u2, u3, _⟩ := (ty_ok hU).ex
    have hd := kind_int (u3.trans hk)
    subst hd
    refine ⟨.int k r, ?_, rfl⟩
    subst hr
    simp [execOp, Go.convert, h1, run_underlying t2, run_underlying u2, Result.andThen, Conv.intToInt]) kk
theorem A.slice_s {T : TypeId} {x : Operand} {lo hi : Option Operand} {xs ys : List UInt8} {nl nh : Int} {ti : TI} (l h : Nat) (hT : ty? P T = some ti) (hk : ti.kind = .string) (hx : ev? s x = some (.str xs))
    (hl : bnd? s lo 0 = some nl) (hh : bnd? s hi xs.length = some nh) (el : nl = (l : Int)) (eh : nh = (h : Int)) (h1 : l ≤ h) (h2 : h ≤ xs.length) (hy : (xs.take h).drop l = ys)
    (k : AOps P all draw K rest (.pure :: acc) ((d, .str ys) :: s) σ) : AOps P all draw K (⟨some d, .slice T x lo hi none, ty, pos, af, none⟩ :: rest) acc s σ :=
  A.step rfl (tpure fun g w a ho => by
    have hx' : a.eval x = .string ⟨xs.toArray⟩ := op1 hx (by simp [Op.operands]) ho
    obtain ⟨_, d1, _, _, t2, t3, _⟩ := (ty_ok hT).ex
    have hd := kind_string (t3.trans hk)
    subst hd
    have hsz : (⟨xs.toArray⟩ : ByteArray).size = xs.length := by simp [ByteArray.size]
    have hex : (⟨xs.toArray⟩ : ByteArray).extract l h = ⟨ys.toArray⟩ := by
      apply ByteArray.ext
      rw [ByteArray.data_extract]
      simp [← hy, List.drop_take]
    refine ⟨.string ⟨ys.toArray⟩, ?_, rfl⟩
    have hhi : ∀ y, hi = some y → (Instr.sliceBound (a.eval y) xs.length .sliceAlen).run P w = .ok h w := fun y e => by
      subst e; exact bound_run hh eh h2 (ho y (by simp [Op.operands]))
    have hlo : ∀ y, lo = some y → (Instr.sliceBound (a.eval y) h .sliceB).run P w = .ok l w := fun y e => by
      subst e; exact bound_run hl el h1 (ho y (by cases hi <;> simp [Op.operands]))
    have h0 : lo = none → l = 0 := by
      intro e0
      subst e0
      have : (0 : Int) = nl := Option.some.inj hl
      omega
    have h00 : hi = none → h = xs.length := by
      intro e0
      subst e0
      have : (xs.length : Int) = nh := Option.some.inj hh
      omega
    cases lo with
    | none =>
      have hl0 := h0 rfl
      subst hl0
      cases hi with
      | none =>
        have hh0 := h00 rfl
        subst hh0
        have hyx : xs = ys := by simpa using hy
        simp [execOp, hx', Instr.sliceAt, run_underlying t2, Result.andThen, Instr.slice, Instr.sliceBounds, hsz, hyx]
      | some y =>
        have := hhi y rfl
        simp [execOp, hx', Instr.sliceAt, run_underlying t2, Result.andThen, Instr.slice, Instr.sliceBounds, hsz, hex, this]
    | some z =>
      have hz := hlo z rfl
      cases hi with
      | none =>
        have hh0 := h00 rfl
        subst hh0
        simp [execOp, hx', Instr.sliceAt, run_underlying t2, Result.andThen, Instr.slice, Instr.sliceBounds, hsz, hex, hz]
      | some y =>
        have := hhi y rfl
        simp [execOp, hx', Instr.sliceAt, run_underlying t2, Result.andThen, Instr.slice, Instr.sliceBounds, hsz, hex, hz, this]) k
end
end Go.Av
namespace Go.Av
open Go Go.MapKept
set_option linter.unusedSectionVars false
set_option linter.unusedVariables false
set_option linter.unusedSimpArgs false
variable [Globals]
def mlook (k : List UInt8) : List (AV × AV) → Option AV
  | [] => none
  | (.str s, v) :: l => if s = k then some v else mlook k l
  | _ :: l => mlook k l
def mput (k : List UInt8) (x : AV) : List (AV × AV) → List (AV × AV)
  | [] => [(.str k, x)]
  | (.str s, v) :: l => if s = k then (.str k, x) :: l else (.str s, v) :: mput k x l
  | p :: l => p :: mput k x l
def strKeys : List (AV × AV) → Bool
  | [] => true
  | (.str _, _) :: l => strKeys l
  | _ => false
theorem bytes_eq (a b : List UInt8) : ((⟨a.toArray⟩ : ByteArray) == ⟨b.toArray⟩) = decide (a = b) := by
  rw [Bool.eq_iff_iff, bytes_beq]
  simp
theorem find_rep {g : Gh} {w : World} {k : List UInt8} : ∀ {es : List (AV × AV)} {l : List MapEntry} (i : Nat), RepM g w es l → strKeys es = true →
    (Instr.findNow .string (.string ⟨k.toArray⟩) l i = some none ∧ mlook k es = none ∧ ∀ x, mput k x es = es ++ [(.str k, x)]) ∨
    ∃ j e x, Instr.findNow .string (.string ⟨k.toArray⟩) l i = some (some (i + j, e.val)) ∧ l[j]? = some e ∧ e.key = .string ⟨k.toArray⟩ ∧ mlook k es = some x ∧ Rep g w x e.val ∧ j < es.length ∧ ∀ y, mput k y es = es.set j (.str k, y)
  | [], _, i, h, _ => by
    rw [show _ = [] from h]
    exact .inl ⟨rfl, rfl, fun x => rfl⟩
  | (.str s, v) :: es, _, i, ⟨e, rest, he, h1, h2, h3⟩, hs => by
    subst he
    have hk : e.key = .string ⟨s.toArray⟩ := h1
    by_cases hsk : s = k
    · subst hsk
      refine .inr ⟨0, e, v, ?_, rfl, hk, by simp [mlook], h2, by simp, fun y => by simp [mput]⟩
      simp [Instr.findNow, Instr.sameNow, hk, bytes_eq]
    · have hf : Instr.sameNow .string (.string ⟨k.toArray⟩) e.key = some false := by
        simp [Instr.sameNow, hk, bytes_eq, Ne.symm hsk]
      rcases find_rep (k := k) (i + 1) h3 hs with ⟨f1, f2, f3⟩ | ⟨j, e', x, f1, f2, f3, f4, f5, f6, f7⟩
      · exact .inl ⟨by simp [Instr.findNow, hf, f1], by simp [mlook, hsk, f2], fun x => by simp [mput, hsk, f3]⟩
      · refine .inr ⟨j + 1, e', x, ?_, by simpa using f2, f3, by simp [mlook, hsk, f4], f5, by simpa using f6, fun y => by simp [mput, hsk, f7]⟩
        simp [Instr.findNow, hf, f1]
        omega
theorem RepM.snoc {g : Gh} {w : World} {e : MapEntry} {k v : AV} (hk : Rep g w k e.key) (hv : Rep g w v e.val) : ∀ {es : List (AV × AV)} {l : List MapEntry}, RepM g w es l → RepM g w (es ++ [(k, v)]) (l ++ [e])
  | [], _, h => by rw [show _ = [] from h]; exact ⟨e, [], rfl, hk, hv, rfl⟩
  | (_, _) :: es, _, ⟨e0, rest, he, h1, h2, h3⟩ => by subst he; exact ⟨e0, _, rfl, h1, h2, RepM.snoc hk hv h3⟩
theorem RepM.put {g : Gh} {w : World} {e : MapEntry} {k v : AV} (hk : Rep g w k e.key) (hv : Rep g w v e.val) : ∀ {es : List (AV × AV)} {l : List MapEntry} (j : Nat), RepM g w es l → RepM g w (es.set j (k, v)) (l.set j e)
  | [], _, j, h => by rw [show _ = [] from h]; simp [RepM]
  | (_, _) :: es, _, 0, ⟨e0, rest, he, h1, h2, h3⟩ => by subst he; exact ⟨e, rest, rfl, hk, hv, h3⟩
  | (_, _) :: es, _, j + 1, ⟨e0, rest, he, h1, h2, h3⟩ => by subst he; exact ⟨e0, _, rfl, h1, h2, RepM.put hk hv j h3⟩
def putW (w : World) (b : Nat) (o : Obj) : World := { w with heap := w.heap.setIfInBounds b o }
theorem put_other (w : World) {b c : Nat} (h : c ≠ b) (o : Obj) : (putW w b o).heap[c]? = w.heap[c]? := by simp [putW, Ne.symm h]
theorem put_same (w : World) {b : Nat} (h : b < w.heap.size) (o : Obj) : (putW w b o).heap[b]? = some o := by simp [putW, h]
theorem write_any {g : Gh} {σ : St} {w : World} (hi : Inv g σ w) {i b : Nat} (hb : g.bx[i]? = some b) {o : Obj} {ob ob0 : Ob} (hob : σ.B[i]? = some ob0)
    (ho : ∀ w', Le g w g w' → w'.heap[b]? = some o → ObOk g w' b ob) : Ext g w g (putW w b o) ∧ Inv g ⟨σ.B.set i ob, σ.T⟩ (putW w b o) := by
  have hlt := hi.bx_lt (List.mem_of_getElem? hb)
  have hbm := List.mem_of_getElem? hb
  have hle : Le g w g (putW w b o) := ⟨fun c p h => by
    have hne : c ≠ b := fun e => hi.noim b hbm p (e ▸ h)
    exact ⟨h, (cell_old (put_other w hne o)).1⟩, fun _ _ h => h, fun k r h => ⟨r, h, .inl rfl⟩⟩
  refine ⟨⟨hle, by simp [putW], rfl, rfl, rfl, fun c hc hn _ => put_other w (fun e => hn (by rw [e]; exact hbm)) o, fun c p hc hn _ => cell_old (put_other w (fun e => hn (by rw [e]; exact hbm)) o), fun _ _ h => .inl h, fun _ h => .inl h, fun k r h c p hp => .inr ⟨r, h, hp⟩⟩, ?_⟩
  refine ⟨by simp [hi.lenB], hi.lenT, fun j c ob' h2 h3 => ?_, hi.nodup, hi.noim, fun k t r hk ht => (hi.tok k t r hk ht).mono hle fun c p hp => (cell_old (put_other w (fun e => (hi.tkz k r hk c p hp).2.1 (by rw [e]; exact hbm)) o)).1, fun k r hk c p hp => ?_, hi.tkd, fun c p h => by simpa [putW] using hi.imlt c p h, hi.gl.le hle⟩
  · by_cases e : j = i
    · subst e
      rw [hb] at h2
      cases h2
      have hj : j < σ.B.length := (List.getElem?_eq_some_iff.1 hob).1
      simp only [List.getElem?_set_self hj, Option.some.injEq] at h3
      subst h3
      exact ho _ hle (put_same w hlt o)
    · simp only [List.getElem?_set_ne (Ne.symm e)] at h3
      have hne : c ≠ b := by
        intro ec
        subst ec
        have := (List.getElem?_inj (List.getElem?_eq_some_iff.1 h2).1 hi.nodup).1 (h2.trans hb.symm)
        exact e this
      exact (hi.ob j c ob' h2 h3).mono hle (put_other w hne o)
  · obtain ⟨h2, h3, h4, h5⟩ := hi.tkz k r hk c p hp
    have hne : c ≠ b := fun e => h3 (e ▸ hbm)
    have hc := cell_old (o := p) (put_other w hne o)
    exact ⟨h2, h3, by rw [hc.1]; exact h4, hc.2.trans h5⟩
section
variable {P : Program} {all : Array Oper} {draw : Bool} {K : AX → Slots → St → Prop} {rest : List Oper} {acc : List Tag} {s : Slots} {σ : St}
variable {d : Tmp} {ty : TypeId} {pos : String} {af : Array Edge}
theorem A.makeMap {T : TypeId} {i : Nat} {B' : List Ob} (hi : smallLen σ.B = some i) (hB : snocK σ.B (.map []) some = some B')
    (k : AOps P all draw K rest (.wb :: acc) ((d, .map i) :: s) ⟨B', σ.T⟩) : AOps P all draw K (⟨some d, .makeMap T none, ty, pos, af, none⟩ :: rest) acc s σ := by
  have hB' : σ.B ++ [.map []] = B' := Option.some.inj (snocK_spec _ _ _ _ hB)
  have hil := smallLen_spec hi
  refine A.step (t := .wb) (v := .map i) (σ' := ⟨B', σ.T⟩) rfl ⟨rfl, fun τ => ?_⟩ k
  intro g w a next Q hI ho hn
  have hn' := new_ob hI (.map #[] 0) (.map []) (fun g' _ => ⟨#[], 0, push_new w _, rfl⟩)
  rw [← hB'] at hn
  unfold Oper.wp
  simp only [execOp, Instr.makeMap, Option.map_none, Sem.run_bind]
  refine hn (.map (some w.heap.size)) (pushW w (.map #[] 0)) _ hn'.1 hn'.2 ⟨w.heap.size, ?_, rfl⟩
  show (g.bx ++ [w.heap.size])[i]? = _
  rw [← hil, show σ.B.length = g.bx.length from hI.lenB.symm]
  simp
variable [Lay P]
theorem A.lookup {T kt et : TypeId} {x y : Operand} {i : Nat} {es : List (AV × AV)} {key : List UInt8} {v : AV} {te : TI} (hT : P.underlying T = some (.map kt et)) (hK : P.underlying kt = some .string) (hE : ty? P et = some te)
    (hx : ev? s x = some (.map i)) (hy : ev? s y = some (.str key)) (hB : σ.B[i]? = some (.map es)) (hk : strKeys es = true) (hv : (mlook key es).getD te.zero = v)
    (k : AOps P all draw K rest (.ri i :: acc) ((d, v) :: s) σ) : AOps P all draw K (⟨some d, .lookup T x y false, ty, pos, af, none⟩ :: rest) acc s σ :=
  A.step (t := .ri i) rfl ⟨rfl, fun B τ hBi => by
    intro g w a next Q hI ho hn
    obtain ⟨b, hb, e⟩ := op1 hx (by simp [Op.operands]) ho
    have e2 : a.eval y = .string ⟨key.toArray⟩ := op1 hy (by simp [Op.operands]) ho
    obtain ⟨ents, clock, hh, hr⟩ := hI.ob i b _ hb (hBi.trans hB)
    have hkey : IsKey .string (.string ⟨key.toArray⟩) := trivial
    obtain ⟨z, hz, hz2, _⟩ := run_zero' hE w
    unfold Oper.wp
    have hck := MapKept.run_checkKey (P := P) (w := w) hK hkey ents.isEmpty 9999
    rcases find_rep (k := key) 0 hr hk with ⟨f1, f2, f3⟩ | ⟨j, e0, x0, f1, f2, f3, f4, f5, f6, f7⟩
    · have hrun : (execOp a.eval ⟨some d, .lookup T x y false, ty, pos, af, none⟩).run P w = .ok (.value z) w := by
        simp [execOp, e, e2, Instr.lookup, run_underlying hT, MapKept.run_getObj_map hh, hck, MapKept.run_findKey hK f1, hz, Result.andThen]
      rw [hrun]
      refine hn z w g (Ext.refl g w) hI ?_
      rw [← hv, f2]
      show Rep g w te.zero z
      rw [← hz2]
      exact rep_ofConst g w z
    · have hrun : (execOp a.eval ⟨some d, .lookup T x y false, ty, pos, af, none⟩).run P w = .ok (.value e0.val) w := by
        simp [execOp, e, e2, Instr.lookup, run_underlying hT, MapKept.run_getObj_map hh, hck, MapKept.run_findKey hK f1, Result.andThen]
      rw [hrun]
      refine hn e0.val w g (Ext.refl g w) hI ?_
      rw [← hv, f4]
      exact f5⟩ k
theorem A.mapUpdate {T kt et : TypeId} {x y z : Operand} {i : Nat} {es : List (AV × AV)} {key : List UInt8} {v : AV} {B' : List Ob} (hT : P.underlying T = some (.map kt et)) (hK : P.underlying kt = some .string)
    (hx : ev? s x = some (.map i)) (hy : ev? s y = some (.str key)) (hz : ev? s z = some v) (hB : σ.B[i]? = some (.map es)) (hk : strKeys es = true) (hB' : σ.B.set i (.map (mput key v es)) = B')
    (k : AOps P all draw K rest (.wi i :: acc) s ⟨B', σ.T⟩) : AOps P all draw K (⟨none, .mapUpdate T x y z, ty, pos, af, none⟩ :: rest) acc s σ := by
  refine A.step (t := .wi i) (v := .undef) (σ' := ⟨B', σ.T⟩) rfl ⟨.map (mput key v es), by rw [hB'], fun B τ hBi => ?_⟩ k
  intro g w a next Q hI ho hn
  obtain ⟨b, hb, e⟩ := op1 hx (by simp [Op.operands]) ho
  have e2 : a.eval y = .string ⟨key.toArray⟩ := op1 hy (by simp [Op.operands]) ho
  have e3 := op1 hz (by simp [Op.operands]) ho
  obtain ⟨ents, clock, hh, hr⟩ := hI.ob i b _ hb (hBi.trans hB)
  have hkey : IsKey .string (.string ⟨key.toArray⟩) := trivial
  have hck := MapKept.run_checkKey (P := P) (w := w) hK hkey false 9999
  unfold Oper.wp
  rcases find_rep (k := key) 0 hr hk with ⟨f1, f2, f3⟩ | ⟨j, e0, x0, f1, f2, f3, f4, f5, f6, f7⟩
  · have hrun : (execOp a.eval ⟨none, .mapUpdate T x y z, ty, pos, af, none⟩).run P w = .ok .skip (putW w b (.map (ents.push ⟨.string ⟨key.toArray⟩, a.eval z, clock⟩) (clock + 1))) := by
      simp [execOp, e, e2, Instr.mapUpdate, run_underlying hT, MapKept.run_getObj_map hh, hck, MapKept.run_findKey hK f1, MapKept.run_setObj_map _ hh, Result.andThen, putW]
    rw [hrun]
    obtain ⟨n1, n2⟩ := write_any hI hb (o := .map (ents.push ⟨.string ⟨key.toArray⟩, a.eval z, clock⟩) (clock + 1)) (ob := .map (mput key v es)) (hBi.trans hB) (fun w' hle hw' => by
      refine ⟨_, _, hw', ?_⟩
      rw [f3, Array.toList_push]
      exact RepM.snoc (e := ⟨.string ⟨key.toArray⟩, a.eval z, clock⟩) (k := AV.str key) (show _ = _ from rfl) (Rep.mono hle _ _ e3) (RepM.mono hle _ _ hr))
    exact hn undef _ g n1 n2 trivial
  · have hj : ents[j]? = some e0 := by simpa using f2
    rw [Nat.zero_add] at f1
    have hrun : (execOp a.eval ⟨none, .mapUpdate T x y z, ty, pos, af, none⟩).run P w = .ok .skip (putW w b (.map (ents.modify j fun e' => { e' with key := .string ⟨key.toArray⟩, val := a.eval z }) clock)) := by
      simp [execOp, e, e2, Instr.mapUpdate, run_underlying hT, MapKept.run_getObj_map hh, hck, MapKept.run_findKey hK f1, hj, f3, MapKept.run_keyThatStays hkey, MapKept.run_setObj_map _ hh, Result.andThen, putW]
    rw [hrun]
    obtain ⟨n1, n2⟩ := write_any hI hb (o := .map (ents.modify j fun e' => { e' with key := .string ⟨key.toArray⟩, val := a.eval z }) clock) (ob := .map (mput key v es)) (hBi.trans hB) (fun w' hle hw' => by
      refine ⟨_, _, hw', ?_⟩
      have hmod : (ents.modify j fun e' => { e' with key := .string ⟨key.toArray⟩, val := a.eval z }).toList = ents.toList.set j { e0 with key := .string ⟨key.toArray⟩, val := a.eval z } := by
        apply List.ext_getElem?
        intro q
        simp only [Array.getElem?_toList, Array.getElem?_modify, List.getElem?_set]
        by_cases hq : j = q
        · subst hq
          have hlt := (Array.getElem?_eq_some_iff.1 hj).1
          have hlt2 : j < ents.toList.length := by simpa using hlt
          simp [hlt2, hlt]
          rw [(Array.getElem?_eq_some_iff.1 hj).2]
        · simp [hq]
      rw [f7, hmod]
      exact RepM.put (e := { e0 with key := .string ⟨key.toArray⟩, val := a.eval z }) (k := AV.str key) (show _ = _ from rfl) (Rep.mono hle _ _ e3) j (RepM.mono hle _ _ hr))
    exact hn undef _ g n1 n2 trivial
end
end Go.Av
