/-
  The store: pointers to objects; its data, copies, comparison; its methods.
-/
import Derived.Test.YtajddgpkflbnaaaMLawCmd2
import Derived.Test.YtajddgpkflbnaaaAvRen4
set_option linter.unusedVariables false
set_option linter.unusedSimpArgs false
namespace Go.Av
open Go

section rules
variable {P : Program} [Lay P] {all : Array Oper} {draw : Bool} {K : AX → Slots → St → Prop} {rest : List Oper} {acc : List Tag} {s : Slots} {σ : St}
variable {d : Option Tmp} {ty : TypeId} {pos : String} {af : Array Edge}

omit [Lay P] in
theorem A.nilCheck {d : Tmp} {x : Operand} {i off : Nat} (hx : ev? s x = some (.ptr i off)) (k : AOps P all draw K rest (.pure :: acc) ((d, .ptr i off) :: s) σ) : AOps P all draw K (⟨some d, .nilCheck x, ty, pos, af, none⟩ :: rest) acc s σ :=
  A.step rfl (tpure fun g w a ho => by
    obtain ⟨b, hb, e⟩ := op1 hx (by simp [Op.operands]) ho
    exact ⟨_, by simp only [execOp, e]; rfl, ⟨b, hb, rfl⟩⟩) k
omit [Lay P] in
theorem run_eq_nilp {T el : TypeId} (h : P.underlying T = some (.pointer el)) (p : Option Addr) (n : Nat) (w : World) : (Op.equalIn (n + 1) T (.pointer p) (.pointer none)).run P w = .ok p.isNone w := by
  cases p <;> simp [Op.equalIn, run_underlying h, Result.andThen]
/-- Is a pointer nil? -/
theorem A.peq {d : Tmp} {T U : TypeId} {x : Operand} {i off : Nat} {ti : TI} (hT : ty? P T = some ti) (hk : ti.kind = .pointer) (hx : ev? s x = some (.ptr i off))
    (k : AOps P all draw K rest (.pure :: acc) ((d, .bool false) :: s) σ) : AOps P all draw K (⟨some d, .binOp .eql T x (.const (.pointer none)) U, ty, pos, af, none⟩ :: rest) acc s σ :=
  A.step rfl (tpure fun g w a ho => by
    obtain ⟨b, hb, e⟩ := op1 hx (by simp [Op.operands]) ho
    obtain ⟨info, dd, z0, t1, t2, t3, t4, _⟩ := (ty_ok hT).ex
    have hd : ∃ e, dd = .pointer e := by rw [hk] at t3; cases dd <;> first | exact ⟨_, rfl⟩ | cases t3
    obtain ⟨elm, rfl⟩ := hd
    have h3 : (Op.equal T (.pointer (some ⟨b, off, none⟩)) (.pointer none)).run P w = .ok false w := run_eq_nilp (P := P) t2 (some ⟨b, off, none⟩) 9999 w
    have ec : a.eval (.const (.pointer none)) = .pointer none := rfl
    exact ⟨.bool false, by simp [execOp, e, ec, eqGuard, Go.binOp, h3, Result.andThen], rfl⟩) k
theorem A.peq0 {d : Tmp} {T U : TypeId} {x : Operand} {ti : TI} (hT : ty? P T = some ti) (hk : ti.kind = .pointer) (hx : ev? s x = some .nilp)
    (k : AOps P all draw K rest (.pure :: acc) ((d, .bool true) :: s) σ) : AOps P all draw K (⟨some d, .binOp .eql T x (.const (.pointer none)) U, ty, pos, af, none⟩ :: rest) acc s σ :=
  A.step rfl (tpure fun g w a ho => by
    have e : a.eval x = .pointer none := op1 hx (by simp [Op.operands]) ho
    obtain ⟨info, dd, z0, t1, t2, t3, t4, _⟩ := (ty_ok hT).ex
    have hd : ∃ e, dd = .pointer e := by rw [hk] at t3; cases dd <;> first | exact ⟨_, rfl⟩ | cases t3
    obtain ⟨elm, rfl⟩ := hd
    have h3 : (Op.equal T (.pointer none) (.pointer none)).run P w = .ok true w := run_eq_nilp (P := P) t2 none 9999 w
    have ec : a.eval (.const (.pointer none)) = .pointer none := rfl
    exact ⟨.bool true, by simp [execOp, e, ec, eqGuard, Go.binOp, h3, Result.andThen], rfl⟩) k

omit [Lay P] in
/-- A call of a method of a record of two cells, the second a growing log. -/
theorem A.callS {f : FuncId} {args : Array Operand} {tys : Array TypeId} {vals vals0 : List AV} {x x' : AV} {es es' : List AV} {z n n' k : Nat} {v : AV} {B' : List Ob} {T' : List Tok} (i : Nat) (ha : evsK s args.toList some = some (.ptr i 0 :: vals))
    (hp : AFn P f (.ptr 0 0 :: vals0) ⟨[.cells [x, .slice es (.own 0 z)]], [.len n]⟩ (fun e σ1 => e = .ret v ∧ σ1 = ⟨[.cells [x', .slice es' (.own 0 z)]], [.len n']⟩))
    (hi : σ.B[i]? = some (.cells [x, .slice es (.own k z)])) (hk : σ.T[k]? = some (.len n)) (hc : AV.closedL vals0 = true) (hx : x.closed = true) (hx' : x'.closed = true) (hes : AV.closedL es = true) (hes' : AV.closedL es' = true) (hv : v.closed = true) (hw : WeakL vals vals0)
    (hB' : σ.B.set i (.cells [x', .slice es' (.own k z)]) = B') (hT' : setTK k (.len n') σ.T some = some T')
    (kk : AOps P all draw K rest (.all :: acc) (putS d v s) ⟨B', T'⟩) : AOps P all draw K (⟨d, .call ⟨.value (.func f), args, tys⟩, ty, pos, af, none⟩ :: rest) acc s σ := by
  have hil : i < σ.B.length := (List.getElem?_eq_some_iff.1 hi).1
  have hkl : k < σ.T.length := (List.getElem?_eq_some_iff.1 hk).1
  have ei : emb σ.B.length [i] 0 = i := by simp [emb]
  have ek : emb σ.T.length [k] 0 = k := by simp [emb]
  have hob : ∀ y ys, AV.closed y = true → AV.closedL ys = true → Ob.ren (emb σ.B.length [i]) (emb σ.T.length [k]) (.cells [y, .slice ys (.own 0 z)]) = .cells [y, .slice ys (.own k z)] := fun y ys h1 h2 => by
    rw [Ob.ren, AV.renL, AV.renL, AV.renL, AV.ren_closed _ _ _ h1, AV.ren, AV.renL_closed _ _ _ h2, Tk.ren, ek]
  obtain ⟨_, hTe⟩ := setTK_spec _ _ _ _ _ hT'
  refine A.callR (nB := σ.B.length) (nT := σ.T.length) (v0 := v) [i] [k] ha hp rfl rfl ⟨by simp, by simpa using hil⟩ ⟨by simp, by simpa using hkl⟩ rfl rfl (fun j i' ob h ho => ?_) (fun j i' t h ht => ?_) ?_ rfl ?_ ?_ (AV.ren_closed _ _ _ hv) (B' := B') (T' := T') ?_ ?_ kk
  · cases j with
    | zero =>
      simp at h ho
      subst h; subst ho
      rw [hob _ _ hx hes]
      exact hi
    | succ j => simp at h
  · cases j with
    | zero =>
      simp at h ht
      subst h; subst ht
      exact hk
    | succ j => simp at h
  · simp only [List.length_cons, List.length_nil, belowB, Ob.low, AV.lowL, AV.low, AV.low_of_closed _ _ _ hx, AV.lowL_of_closed _ _ _ hes, Bool.and_true, Bool.true_and]
    rfl
  · simp only [List.length_cons, List.length_nil, AV.lowL, AV.low, AV.lowL_of_closed _ _ _ hc, Bool.and_true]
    rfl
  · rw [AV.renL, AV.ren, ei, AV.renL_closed _ _ _ hc]
    exact WeakL.cons (Weak.refl _) hw
  · rw [← hB']
    simp only [merge, upd, List.map_cons, List.map_nil, hob _ _ hx' hes', List.length_cons, List.length_nil, List.drop_succ_cons, List.drop_zero, List.append_nil]
  · rw [← Option.some.inj hTe]
    simp only [merge, upd, List.map_cons, List.map_nil, Tok.ren, List.length_cons, List.length_nil, List.drop_succ_cons, List.drop_zero, List.append_nil]
omit [Lay P] in
/-- A call that makes such a record. -/
theorem A.callO {f : FuncId} {args : Array Operand} {tys : Array TypeId} {vals vals0 : List AV} {x : AV} {z n k i : Nat} {B' : List Ob} {T' : List Tok} {d : Tmp} (ha : evsK s args.toList some = some vals)
    (hp : AFn P f vals0 ⟨[], []⟩ (fun e σ1 => e = .ret (.ptr 0 0) ∧ σ1 = ⟨[.cells [x, .slice [] (.own 0 z)]], [.len n]⟩)) (hc : AV.closedL vals0 = true) (hx : x.closed = true) (hw : WeakL vals vals0)
    (hi : smallLen σ.B = some i) (hk : smallLen σ.T = some k) (hB' : snocK σ.B (.cells [x, .slice [] (.own k z)]) some = some B') (hT' : snocK σ.T (.len n) some = some T')
    (kk : AOps P all draw K rest (.all :: acc) ((d, .ptr i 0) :: s) ⟨B', T'⟩) : AOps P all draw K (⟨some d, .call ⟨.value (.func f), args, tys⟩, ty, pos, af, none⟩ :: rest) acc s σ := by
  have hi' : σ.B.length = i := smallLen_spec hi
  have hk' : σ.T.length = k := smallLen_spec hk
  have hTe := snocK_spec _ _ _ _ hT'
  have hBe := snocK_spec _ _ _ _ hB'
  refine A.callR (nB := σ.B.length) (nT := σ.T.length) (B0 := []) (T0 := []) (v0 := .ptr 0 0) [] [] ha hp rfl rfl ⟨List.nodup_nil, by simp⟩ ⟨List.nodup_nil, by simp⟩ rfl rfl (fun k i ob h => by simp at h) (fun k i t h => by simp at h) rfl rfl
    (AV.lowL_of_closed _ _ _ hc) (by rw [AV.renL_closed _ _ _ hc]; exact hw) (v := .ptr i 0) ?_ (B' := B') (T' := T') ?_ ?_ kk
  · rw [AV.ren]; simp [emb, hi']
  · rw [merge_nil, ← Option.some.inj hBe]
    simp only [List.map_cons, List.map_nil, Ob.ren, AV.renL, AV.ren_closed _ _ _ hx, AV.ren, Tk.ren]
    simp [emb, hk']
  · rw [merge_nil, ← Option.some.inj hTe]
    simp only [List.map_cons, List.map_nil, Tok.ren]
end rules
/-- A new variable, as a slice of one element: it does not stand in the way of what reads objects. -/
theorem A.allocv {P : Program} [Lay P] {all : Array Oper} {draw : Bool} {K : AX → Slots → St → Prop} {rest : List Oper} {acc : List Tag} {s : Slots} {σ : St} {ty : TypeId} {pos : String} {af : Array Edge} {d : Tmp} {T : TypeId} {k z : Nat} {x : AV} {T' : List Tok} {ti : TI} (hT : ty? P T = some ti) (hz' : ti.size = z) (hx : ti.zero = x)
    (hk : smallLen σ.T = some k) (hT' : snocK σ.T (.vec [x]) some = some T')
    (kk : AOps P all draw K rest (.tk :: acc) ((d, .vptr k z 1 0 0) :: s) ⟨σ.B, T'⟩) : AOps P all draw K (⟨some d, .alloc T, ty, pos, af, none⟩ :: rest) acc s σ :=
  A.step (t := .tk) (σ' := ⟨σ.B, T'⟩) rfl ⟨rfl, fun B => by
    intro g w a next Q hI ho hn
    subst hz'; subst hx
    obtain ⟨zv, hz, hz1, hz2, hz3⟩ := run_zero' hT w
    have h1 : Rep g w ti.zero zv := by rw [← hz1]; exact rep_ofConst g w zv
    have hTe : σ.T ++ [.vec [ti.zero]] = T' := Option.some.inj (snocK_spec _ _ _ _ hT')
    have hkl : σ.T.length = k := smallLen_spec hk
    have hnone : g.tk[k]? = none := by
      have hlt : g.tk.length = σ.T.length := hI.lenT
      rw [← hkl, ← hlt]; simp
    have hzone : ∀ b o, (⟨some ⟨w.heap.size, 0, none⟩, 1, 1, ti.size, 0⟩ : Rec).zone b o → b = w.heap.size ∧ o < zv.cells.size := by
      rintro b o ⟨p, hp, rfl, e1, e2⟩
      cases hp
      refine ⟨rfl, ?_⟩
      rw [hz2]
      simpa using e2
    obtain ⟨g', e1, e2, e3, _⟩ := retk (k := k) (r' := ⟨some ⟨w.heap.size, 0, none⟩, 1, 1, ti.size, 0⟩) (t' := .vec [ti.zero]) (J := fun _ _ => False) hI (w' := pushW w (.cells zv.cells T)) (.inr ⟨hkl.symm, rfl⟩)
      (by rw [push_size]; exact Nat.le_succ _) rfl rfl rfl (fun b hb _ => push_old w _ hb) (fun b o hb _ => (cell_old (push_old w _ hb)).1) (fun b o hb => (cell_old (push_old w _ hb)).2) (fun _ _ h => h.elim)
      (fun b o ho => by
        obtain ⟨rfl, h2⟩ := hzone b o ho
        exact ⟨⟨zv.cells[o], (new_data_cell w zv.cells T o).trans (Array.getElem?_eq_getElem h2)⟩, new_data_frozen w zv.cells T o, .inl (Nat.le_refl _)⟩)
      (fun r hr => by rw [hnone] at hr; cases hr)
      (fun g' hle => ⟨rfl, rfl, Nat.le_refl _, [zv], ⟨zv, [], rfl, Rep.mono hle _ _ h1, rfl⟩, (fun e => by cases e), (fun V hV => by rw [List.mem_singleton.1 hV]; exact hz2), (fun p hp => by
        cases hp
        refine ⟨.inl rfl, inMemE_of_flat (fun V hV => by rw [List.mem_singleton.1 hV]; exact hz2) fun j u hj => ?_⟩
        have hj' : zv.cells.toList[j]? = some u := by simpa [flat] using hj
        refine ⟨trivial, ?_, hz3 u (List.mem_of_getElem? hj')⟩
        show (pushW w (.cells zv.cells T)).cell? ⟨w.heap.size, 0 + j, none⟩ = some u
        rw [Nat.zero_add]
        exact (new_data_cell w zv.cells T j).trans (by simpa using hj'))⟩)
    unfold Oper.wp
    simp only [execOp, Instr.alloc, hz, newVar, newRow, newObj, Sem.run_bind, Result.andThen, Sem.run]
    exact hn _ _ _ e1 (hTe ▸ e2) ⟨w.heap.size, 0, rfl, by omega, _, e3, rfl, Nat.le_refl _, fun _ => ⟨rfl, _, rfl, rfl, rfl, by simp⟩⟩⟩ kk
/-- A contract with a fixed end: the result turned, what is behind the bounds dropped. -/
theorem AFn.meth {P : Program} {f : FuncId} {args : List AV} {σ : St} {v2 : AV} {nB mT : Nat} {B' : List Ob} {T' : List Tok}
    (h : AFn P f args σ (fun e σ1 => ∃ v σ2, e = .ret v ∧ Turn σ1 v σ2 v2 ∧ σ2.B.take nB = B' ∧ σ2.T.take mT = T')) (hb : σ.B.length ≤ nB) (ht : σ.T.length ≤ mT) (hv : v2.low nB mT = true) (hB : belowB nB mT B' = true) (hT : belowT nB mT T' = true) :
    AFn P f args σ (fun e σ1 => e = .ret v2 ∧ σ1 = ⟨B', T'⟩) :=
  ⟨h.1, fun g w vals hi hl => (h.2 g w vals hi hl).mono fun e w' ⟨g', σ', x, h1, h2, h3, v, σ2, e1, h4, h5, h6⟩ => by
    subst e1
    obtain ⟨u, rfl, hu⟩ := h3
    obtain ⟨g2, k1, k2, k3⟩ := h4 g' w' u h2 hu
    subst h5; subst h6
    exact ⟨g2.cutTo nB mT, _, .ret v2, cutTo_ext (h1.trans k1) (by rw [hi.lenB]; exact hb) (by rw [hi.lenT]; exact ht), cutTo_inv k2 hB hT, ⟨u, rfl, Rep.low v2 u hv k3⟩, rfl, rfl⟩⟩
end Go.Av

namespace Go.Proofs.Ytajddgpkflbnaaa
open Go Go.Av
set_option maxRecDepth 100000
set_option maxHeartbeats 16000000
set_option linter.unusedVariables false
set_option linter.unusedSimpArgs false
attribute [local irreducible] HCode AOps PFn AFn Av.Step TStep

structure Batch where
  table : Str
  keys : List Str
def Batch.enc (b : Batch) : AV := .agg [.str b.table, .slice (b.keys.map AV.str) .no]
structure Entry where
  b : Batch
  c : Cmd
def Entry.enc (e : Entry) : AV := .agg [.str e.b.table, .slice (e.b.keys.map AV.str) .no, .str e.c.name, .str e.c.table, .str e.c.col, .str e.c.typ, .slice (e.c.args.map Mem.enc) .no]
structure Ask where
  do_ : Bool
  c : Cmd
  b : Batch
def Ask.enc (o : Ask) : AV := .agg [.bool o.do_, .str o.c.name, .str o.c.table, .str o.c.col, .str o.c.typ, .slice (o.c.args.map Mem.enc) .no, .str o.b.table, .slice (o.b.keys.map AV.str) .no]
def b0 : Batch := ⟨[], []⟩
def c0 : Cmd := ⟨[], [], [], [], []⟩

theorem strs_closed (l : List Str) : AV.closedL (l.map AV.str) = true := closedL_map (fun _ => rfl) l
theorem Batch.closed (b : Batch) : b.enc.closed = true := by simp [Batch.enc, AV.closed, AV.closedL, strs_closed]
theorem Entry.closed (e : Entry) : e.enc.closed = true := by simp [Entry.enc, AV.closed, AV.closedL, strs_closed, Mem.closedL]
theorem Ask.closed (o : Ask) : o.enc.closed = true := by simp [Ask.enc, AV.closed, AV.closedL, strs_closed, Mem.closedL]
theorem Entry.closedL (l : List Entry) : AV.closedL (l.map Entry.enc) = true := closedL_map Entry.closed l
theorem Ask.closedL (l : List Ask) : AV.closedL (l.map Ask.enc) = true := closedL_map Ask.closed l
theorem Got.closedL (l : List Got) : AV.closedL (l.map Got.enc) = true := closedL_map Got.closed l
theorem Got.lowL (n m : Nat) (l : List Got) : AV.lowL n m (l.map Got.enc) = true := AV.lowL_of_closed n m _ (Got.closedL l)
theorem Entry.lowL (n m : Nat) (l : List Entry) : AV.lowL n m (l.map Entry.enc) = true := AV.lowL_of_closed n m _ (Entry.closedL l)
theorem strs_fits (l : List Str) : Av.fitsAll false 1 (l.map AV.str) = true := fitsAll_map (fun _ => rfl) l

def strSize (s : Str) : Nat := s.length + 1
def Batch.size (b : Batch) : Nat := b.table.length + sumSize strSize b.keys + 2
def Ask.size (o : Ask) : Nat := o.c.size + o.b.size + 1
theorem reads_strs : ∀ n : Nat, ReadN Try.prog n 74 false (fun l => .slice (l.map AV.str) .no) (fun l => sumSize strSize l + 1) (fun l => ∀ x ∈ l, True)
  | 0 => ReadN.zero
  | n + 1 => ReadN.slice Try.underlying74 (c := 1) (by kernel_rfl) (by decide) (reads_str n)
theorem reads_batch : ∀ n : Nat, ReadN Try.prog n 76 true Batch.enc Batch.size (fun _ => True)
  | 0 => ReadN.zero
  | n + 1 => (ReadN.struct Try.underlying76 (by kernel_rfl)
      (ReadF.cons (c := 1) rfl (by kernel_rfl) (one_cell fun _ => rfl) (reads_str n)
        (ReadF.cons (c := 1) rfl (by kernel_rfl) (one_cell fun _ => rfl) (reads_strs n) ReadF.nil))).map
      (fun x => (⟨x.1, x.2.1⟩ : Batch)) (fun _ => rfl) (fun x => by simp only [Batch.size]; omega) (fun x h => trivial)

theorem cloneS (l : List Str) (h : l.length ≤ 1048576) : PFn Try.prog 94 [.slice (l.map AV.str) .no] (.slice (l.map AV.str) .no) := by
  have hl : (l.map AV.str).length = l.length := List.length_map ..
  refine AFn.plain (by simp [AV.closed, strs_closed]) (by simp [AV.closed, AV.closedL, strs_closed]) (AFn.enter [2] Try.func94 rfl rfl rfl rfl rfl (by decide) ?_)
  refine HCode.split_nil 0 rfl (fun hn => ?_) ?_
  · repeat' first
      | refine HCode.seq ?_ | refine HCode.region rfl ?_ | refine HCode.region_draw Lay.mix rfl ?_ | refine HCode.block ?_ | refine HCode.scope ?_ | refine HCode.skip ?_ | refine HCode.label ?_ | refine HCode.exit ?_ | refine HCode.ret ?_
      | refine HCode.cond_true rfl ?_ | refine HCode.cond_false rfl ?_ | refine HCode.cond_yes rfl (by assumption) ?_ | refine HCode.cond_no rfl (by assumption) ?_ | (refine HCode.cond rfl ?_ ?_ <;> intro hc)
      | refine A.nil_seq ?_ | refine A.nil (fun _ => rfl) ?_ | refine A.dead rfl ?_ | refine A.yes rfl rfl ?_ | refine A.no rfl rfl ?_ | refine A.yes rfl (by assumption) ?_ | refine A.no rfl (by assumption) ?_ | (refine A.guard rfl ?_ ?_ <;> intro hc)
      | refine A.move rfl ?_ | refine A.assign rfl ?_ | refine A.load_b rfl rfl rfl rfl ?_ | refine A.load_r rfl rfl rfl ?_ | refine A.field_b rfl rfl rfl rfl rfl rfl ?_ | refine A.field_r rfl rfl rfl rfl rfl rfl ?_ | refine A.field rfl rfl rfl rfl rfl ?_
      | refine A.index_r rfl rfl rfl rfl rfl rfl (by assumption) rfl ?_ | refine A.len rfl rfl rfl (by first | rw [List.length_map] | rfl) ?_ | refine A.lens rfl rfl rfl rfl ?_
      | refine A.pick_true rfl rfl rfl ?_ | refine A.pick_false rfl rfl rfl ?_ | refine A.pick_true rfl (by assumption) rfl ?_ | refine A.pick_false rfl (by assumption) rfl ?_
      | refine A.box rfl rfl rfl ?_ | refine A.alloc rfl rfl rfl ?_ | refine A.store rfl rfl rfl rfl rfl ?_ | refine A.build rfl rfl rfl rfl ?_ | refine A.buildSlice rfl rfl rfl rfl rfl rfl rfl ?_
      | refine A.eqi rfl rfl ?_ | refine A.nei rfl rfl ?_ | refine A.lss rfl rfl ?_ | refine A.leq rfl rfl ?_ | refine A.gtr rfl rfl ?_ | refine A.geq rfl rfl ?_ | refine A.eqb rfl rfl rfl rfl ?_ | refine A.neb rfl rfl rfl rfl ?_ | refine A.eqs rfl rfl ?_ | refine A.nes rfl rfl ?_ | refine A.lts rfl rfl ?_ | refine A.gts rfl rfl ?_
      | refine A.not rfl ?_ | refine A.extract rfl rfl ?_ | refine A.add64 rfl rfl rfl (by omega) ?_ | refine A.sub64 rfl rfl rfl (by omega) ?_
      | refine A.isnil rfl rfl rfl ?_
    exact Fin.ret1 rfl (Weak.no (WeakL.eq hn.symm))
  · repeat' first
      | refine HCode.seq ?_ | refine HCode.region rfl ?_ | refine HCode.region_draw Lay.mix rfl ?_ | refine HCode.block ?_ | refine HCode.scope ?_ | refine HCode.skip ?_ | refine HCode.label ?_ | refine HCode.exit ?_ | refine HCode.ret ?_
      | refine HCode.cond_true rfl ?_ | refine HCode.cond_false rfl ?_ | refine HCode.cond_yes rfl (by assumption) ?_ | refine HCode.cond_no rfl (by assumption) ?_ | (refine HCode.cond rfl ?_ ?_ <;> intro hc)
      | refine A.nil_seq ?_ | refine A.nil (fun _ => rfl) ?_ | refine A.dead rfl ?_ | refine A.yes rfl rfl ?_ | refine A.no rfl rfl ?_ | refine A.yes rfl (by assumption) ?_ | refine A.no rfl (by assumption) ?_ | (refine A.guard rfl ?_ ?_ <;> intro hc)
      | refine A.move rfl ?_ | refine A.assign rfl ?_ | refine A.load_b rfl rfl rfl rfl ?_ | refine A.load_r rfl rfl rfl ?_ | refine A.field_b rfl rfl rfl rfl rfl rfl ?_ | refine A.field_r rfl rfl rfl rfl rfl rfl ?_ | refine A.field rfl rfl rfl rfl rfl ?_
      | refine A.index_r rfl rfl rfl rfl rfl rfl (by assumption) rfl ?_ | refine A.len rfl rfl rfl (by first | rw [List.length_map] | rfl) ?_ | refine A.lens rfl rfl rfl rfl ?_
      | refine A.pick_true rfl rfl rfl ?_ | refine A.pick_false rfl rfl rfl ?_ | refine A.pick_true rfl (by assumption) rfl ?_ | refine A.pick_false rfl (by assumption) rfl ?_
      | refine A.box rfl rfl rfl ?_ | refine A.alloc rfl rfl rfl ?_ | refine A.store rfl rfl rfl rfl rfl ?_ | refine A.build rfl rfl rfl rfl ?_ | refine A.buildSlice rfl rfl rfl rfl rfl rfl rfl ?_
      | refine A.eqi rfl rfl ?_ | refine A.nei rfl rfl ?_ | refine A.lss rfl rfl ?_ | refine A.leq rfl rfl ?_ | refine A.gtr rfl rfl ?_ | refine A.geq rfl rfl ?_ | refine A.eqb rfl rfl rfl rfl ?_ | refine A.neb rfl rfl rfl rfl ?_ | refine A.eqs rfl rfl ?_ | refine A.nes rfl rfl ?_ | refine A.lts rfl rfl ?_ | refine A.gts rfl rfl ?_
      | refine A.not rfl ?_ | refine A.extract rfl rfl ?_ | refine A.add64 rfl rfl rfl (by omega) ?_ | refine A.sub64 rfl rfl rfl (by omega) ?_
      | refine A.notnil rfl rfl rfl ?_ | refine A.append_new (n := 0) rfl rfl rfl rfl rfl rfl rfl rfl rfl rfl (strs_fits l) (by dsimp only; omega) (by omega) rfl ?_
    exact Fin.ret1 rfl (Weak.no (WeakL.eq (List.nil_append _)))
theorem batchC (b : Batch) (h : b.keys.length ≤ 1048576) : PFn Try.prog 78 [b.enc] b.enc := by
  refine AFn.plain (Batch.closed b) (by simp [AV.closedL, Batch.closed]) (AFn.enterR [.cell 2 76] Try.func78 rfl rfl rfl rfl rfl ?_)
  have hc := cloneS b.keys h
  repeat' first
    | refine HCode.seq ?_ | refine HCode.region rfl ?_ | refine HCode.region_draw Lay.mix rfl ?_ | refine HCode.block ?_ | refine HCode.scope ?_ | refine HCode.skip ?_ | refine HCode.label ?_ | refine HCode.exit ?_ | refine HCode.ret ?_
    | refine HCode.cond_true rfl ?_ | refine HCode.cond_false rfl ?_ | refine HCode.cond_yes rfl (by assumption) ?_ | refine HCode.cond_no rfl (by assumption) ?_ | (refine HCode.cond rfl ?_ ?_ <;> intro hc)
    | refine A.nil_seq ?_ | refine A.nil (fun _ => rfl) ?_ | refine A.dead rfl ?_ | refine A.yes rfl rfl ?_ | refine A.no rfl rfl ?_ | refine A.yes rfl (by assumption) ?_ | refine A.no rfl (by assumption) ?_ | (refine A.guard rfl ?_ ?_ <;> intro hc)
    | refine A.move rfl ?_ | refine A.assign rfl ?_ | refine A.load_b rfl rfl rfl rfl ?_ | refine A.load_r rfl rfl rfl ?_ | refine A.field_b rfl rfl rfl rfl rfl rfl ?_ | refine A.field_r rfl rfl rfl rfl rfl rfl ?_ | refine A.field rfl rfl rfl rfl rfl ?_
    | refine A.index_r rfl rfl rfl rfl rfl rfl (by assumption) rfl ?_ | refine A.len rfl rfl rfl (by first | rw [List.length_map] | rfl) ?_ | refine A.lens rfl rfl rfl rfl ?_
    | refine A.pick_true rfl rfl rfl ?_ | refine A.pick_false rfl rfl rfl ?_ | refine A.pick_true rfl (by assumption) rfl ?_ | refine A.pick_false rfl (by assumption) rfl ?_
    | refine A.box rfl rfl rfl ?_ | refine A.alloc rfl rfl rfl ?_ | refine A.store rfl rfl rfl rfl rfl ?_ | refine A.build rfl rfl rfl rfl ?_ | refine A.buildSlice rfl rfl rfl rfl rfl rfl rfl ?_
    | refine A.eqi rfl rfl ?_ | refine A.nei rfl rfl ?_ | refine A.lss rfl rfl ?_ | refine A.leq rfl rfl ?_ | refine A.gtr rfl rfl ?_ | refine A.geq rfl rfl ?_ | refine A.eqb rfl rfl rfl rfl ?_ | refine A.neb rfl rfl rfl rfl ?_ | refine A.eqs rfl rfl ?_ | refine A.nes rfl rfl ?_ | refine A.lts rfl rfl ?_ | refine A.gts rfl rfl ?_
    | refine A.not rfl ?_ | refine A.extract rfl rfl ?_ | refine A.add64 rfl rfl rfl (by omega) ?_ | refine A.sub64 rfl rfl rfl (by omega) ?_
    | refine A.call rfl hc (WeakL.refl _) ?_
  exact FinR.ret1 rfl (Weak.refl _)
theorem cmdC (c : Cmd) (h : c.args.length ≤ 1048576) : PFn Try.prog 77 [c.enc] c.enc := by
  refine AFn.plain (Cmd.closed c) (by simp [AV.closedL, Cmd.closed]) (AFn.enterR [.cell 2 25] Try.func77 rfl rfl rfl rfl rfl ?_)
  have hc := cloneM c.args h
  repeat' first
    | refine HCode.seq ?_ | refine HCode.region rfl ?_ | refine HCode.region_draw Lay.mix rfl ?_ | refine HCode.block ?_ | refine HCode.scope ?_ | refine HCode.skip ?_ | refine HCode.label ?_ | refine HCode.exit ?_ | refine HCode.ret ?_
    | refine HCode.cond_true rfl ?_ | refine HCode.cond_false rfl ?_ | refine HCode.cond_yes rfl (by assumption) ?_ | refine HCode.cond_no rfl (by assumption) ?_ | (refine HCode.cond rfl ?_ ?_ <;> intro hc)
    | refine A.nil_seq ?_ | refine A.nil (fun _ => rfl) ?_ | refine A.dead rfl ?_ | refine A.yes rfl rfl ?_ | refine A.no rfl rfl ?_ | refine A.yes rfl (by assumption) ?_ | refine A.no rfl (by assumption) ?_ | (refine A.guard rfl ?_ ?_ <;> intro hc)
    | refine A.move rfl ?_ | refine A.assign rfl ?_ | refine A.load_b rfl rfl rfl rfl ?_ | refine A.load_r rfl rfl rfl ?_ | refine A.field_b rfl rfl rfl rfl rfl rfl ?_ | refine A.field_r rfl rfl rfl rfl rfl rfl ?_ | refine A.field rfl rfl rfl rfl rfl ?_
    | refine A.index_r rfl rfl rfl rfl rfl rfl (by assumption) rfl ?_ | refine A.len rfl rfl rfl (by first | rw [List.length_map] | rfl) ?_ | refine A.lens rfl rfl rfl rfl ?_
    | refine A.pick_true rfl rfl rfl ?_ | refine A.pick_false rfl rfl rfl ?_ | refine A.pick_true rfl (by assumption) rfl ?_ | refine A.pick_false rfl (by assumption) rfl ?_
    | refine A.box rfl rfl rfl ?_ | refine A.alloc rfl rfl rfl ?_ | refine A.store rfl rfl rfl rfl rfl ?_ | refine A.build rfl rfl rfl rfl ?_ | refine A.buildSlice rfl rfl rfl rfl rfl rfl rfl ?_
    | refine A.eqi rfl rfl ?_ | refine A.nei rfl rfl ?_ | refine A.lss rfl rfl ?_ | refine A.leq rfl rfl ?_ | refine A.gtr rfl rfl ?_ | refine A.geq rfl rfl ?_ | refine A.eqb rfl rfl rfl rfl ?_ | refine A.neb rfl rfl rfl rfl ?_ | refine A.eqs rfl rfl ?_ | refine A.nes rfl rfl ?_ | refine A.lts rfl rfl ?_ | refine A.gts rfl rfl ?_
    | refine A.not rfl ?_ | refine A.extract rfl rfl ?_ | refine A.add64 rfl rfl rfl (by omega) ?_ | refine A.sub64 rfl rfl rfl (by omega) ?_
    | refine A.call rfl hc (WeakL.refl _) ?_
  exact FinR.ret1 rfl (Weak.refl _)

theorem sameGot (g : Got) (h : sumSize Mem.size g.row.cols ≤ 9223372036854775807) : PFn Try.prog 45 [g.enc, g.enc] (.bool true) := by
  refine AFn.plain rfl (by simp [AV.closedL, Got.closed]) (AFn.enter [4] Try.func45 rfl rfl rfl rfl rfl (by decide) ?_)
  have hm := sameRow g.row h
  have e1 : (g.is == g.is) = true := by simp
  have e2 : (g.e == g.e) = true := by simp
  repeat' first
    | refine A.box_r rfl rfl ?_
    | refine HCode.seq ?_ | refine HCode.region rfl ?_ | refine HCode.region_draw Lay.mix rfl ?_ | refine HCode.block ?_ | refine HCode.scope ?_ | refine HCode.skip ?_ | refine HCode.label ?_ | refine HCode.exit ?_ | refine HCode.ret ?_
    | refine HCode.cond_true rfl ?_ | refine HCode.cond_false rfl ?_ | refine HCode.cond_yes rfl (by assumption) ?_ | refine HCode.cond_no rfl (by assumption) ?_ | (refine HCode.cond rfl ?_ ?_ <;> intro hc)
    | refine A.nil_seq ?_ | refine A.nil (fun _ => rfl) ?_ | refine A.dead rfl ?_ | refine A.yes rfl rfl ?_ | refine A.no rfl rfl ?_ | refine A.yes rfl (by assumption) ?_ | refine A.no rfl (by assumption) ?_ | (refine A.guard rfl ?_ ?_ <;> intro hc)
    | refine A.move rfl ?_ | refine A.assign rfl ?_ | refine A.load_b rfl rfl rfl rfl ?_ | refine A.load_r rfl rfl rfl ?_ | refine A.field_b rfl rfl rfl rfl rfl rfl ?_ | refine A.field_r rfl rfl rfl rfl rfl rfl ?_ | refine A.field rfl rfl rfl rfl rfl ?_
    | refine A.index_r rfl rfl rfl rfl rfl rfl (by assumption) rfl ?_ | refine A.len rfl rfl rfl (by first | rw [List.length_map] | rfl) ?_ | refine A.lens rfl rfl rfl rfl ?_
    | refine A.pick_true rfl rfl rfl ?_ | refine A.pick_false rfl rfl rfl ?_ | refine A.pick_true rfl (by assumption) rfl ?_ | refine A.pick_false rfl (by assumption) rfl ?_
    | refine A.box rfl rfl rfl ?_ | refine A.alloc rfl rfl rfl ?_ | refine A.store rfl rfl rfl rfl rfl ?_ | refine A.build rfl rfl rfl rfl ?_ | refine A.buildSlice rfl rfl rfl rfl rfl rfl rfl ?_
    | refine A.eqi rfl rfl ?_ | refine A.nei rfl rfl ?_ | refine A.lss rfl rfl ?_ | refine A.leq rfl rfl ?_ | refine A.gtr rfl rfl ?_ | refine A.geq rfl rfl ?_ | refine A.eqb rfl rfl rfl rfl ?_ | refine A.neb rfl rfl rfl rfl ?_ | refine A.eqs rfl rfl ?_ | refine A.nes rfl rfl ?_ | refine A.lts rfl rfl ?_ | refine A.gts rfl rfl ?_
    | refine A.not rfl ?_ | refine A.extract rfl rfl ?_ | refine A.add64 rfl rfl rfl (by omega) ?_ | refine A.sub64 rfl rfl rfl (by omega) ?_
    | refine A.call rfl hm (WeakL.refl _) ?_
  all_goals exact Fin.ret1 rfl (Weak.refl _)
theorem sameGots (l : List Got) (hl : l.length ≤ 9223372036854775807) (h : ∀ g ∈ l, sumSize Mem.size g.row.cols ≤ 9223372036854775807) :
    PFn Try.prog 40 [.slice (l.map Got.enc) .no, .slice (l.map Got.enc) .no] (.bool true) := by
  refine AFn.plain rfl (by simp [AV.closedL, AV.closed, Got.closedL]) (AFn.enter [4] Try.func40 rfl rfl rfl rfl rfl (by decide) ?_)
  have e0 : ((l.length : Int) != (l.length : Int)) = false := by simp
  repeat' first
    | refine HCode.seq ?_ | refine HCode.region rfl ?_ | refine HCode.region_draw Lay.mix rfl ?_ | refine HCode.block ?_ | refine HCode.scope ?_ | refine HCode.skip ?_ | refine HCode.label ?_ | refine HCode.exit ?_ | refine HCode.ret ?_
    | refine HCode.cond_true rfl ?_ | refine HCode.cond_false rfl ?_ | refine HCode.cond_yes rfl (by assumption) ?_ | refine HCode.cond_no rfl (by assumption) ?_ | (refine HCode.cond rfl ?_ ?_ <;> intro hc)
    | refine A.nil_seq ?_ | refine A.nil (fun _ => rfl) ?_ | refine A.dead rfl ?_ | refine A.yes rfl rfl ?_ | refine A.no rfl rfl ?_ | refine A.yes rfl (by assumption) ?_ | refine A.no rfl (by assumption) ?_ | (refine A.guard rfl ?_ ?_ <;> intro hc)
    | refine A.move rfl ?_ | refine A.assign rfl ?_ | refine A.load_b rfl rfl rfl rfl ?_ | refine A.load_r rfl rfl rfl ?_ | refine A.field_b rfl rfl rfl rfl rfl rfl ?_ | refine A.field_r rfl rfl rfl rfl rfl rfl ?_ | refine A.field rfl rfl rfl rfl rfl ?_
    | refine A.index_r rfl rfl rfl rfl rfl rfl (by assumption) rfl ?_ | refine A.len rfl rfl rfl (by first | rw [List.length_map] | rfl) ?_ | refine A.lens rfl rfl rfl rfl ?_
    | refine A.pick_true rfl rfl rfl ?_ | refine A.pick_false rfl rfl rfl ?_ | refine A.pick_true rfl (by assumption) rfl ?_ | refine A.pick_false rfl (by assumption) rfl ?_
    | refine A.box rfl rfl rfl ?_ | refine A.alloc rfl rfl rfl ?_ | refine A.store rfl rfl rfl rfl rfl ?_ | refine A.build rfl rfl rfl rfl ?_ | refine A.buildSlice rfl rfl rfl rfl rfl rfl rfl ?_
    | refine A.eqi rfl rfl ?_ | refine A.nei rfl rfl ?_ | refine A.lss rfl rfl ?_ | refine A.leq rfl rfl ?_ | refine A.gtr rfl rfl ?_ | refine A.geq rfl rfl ?_ | refine A.eqb rfl rfl rfl rfl ?_ | refine A.neb rfl rfl rfl rfl ?_ | refine A.eqs rfl rfl ?_ | refine A.nes rfl rfl ?_ | refine A.lts rfl rfl ?_ | refine A.gts rfl rfl ?_
    | refine A.not rfl ?_ | refine A.extract rfl rfl ?_ | refine A.add64 rfl rfl rfl (by omega) ?_ | refine A.sub64 rfl rfl rfl (by omega) ?_
  change HCode _ _ _ _ _ _ _
  refine HCode.loop (fun n s σ => ∃ k : Nat, n = l.length - k ∧ k ≤ l.length ∧ σ = ⟨[], []⟩ ∧ s = [(5, .int .i64 k), (0, .slice (l.map Got.enc) .no), (1, .slice (l.map Got.enc) .no)])
    (s0 := [(5, .int .i64 (0 : Nat)), (0, .slice (l.map Got.enc) .no), (1, .slice (l.map Got.enc) .no)]) ⟨rfl, rfl, rfl, trivial⟩ ⟨0, rfl, Nat.zero_le _, rfl, rfl⟩ ?_
  rintro n s σ ⟨k, rfl, hk, rfl, rfl⟩
  by_cases h1 : k < l.length
  · have d1 : decide ((k : Int) < (l.length : Int)) = true := by simp [h1]
    have x1 := map_get' (f := Got.enc) h1
    have hg := sameGot l[k] (h _ (List.getElem_mem h1))
    repeat' first
      | refine HCode.seq ?_ | refine HCode.region rfl ?_ | refine HCode.region_draw Lay.mix rfl ?_ | refine HCode.block ?_ | refine HCode.scope ?_ | refine HCode.skip ?_ | refine HCode.label ?_ | refine HCode.exit ?_ | refine HCode.ret ?_
      | refine HCode.cond_true rfl ?_ | refine HCode.cond_false rfl ?_ | refine HCode.cond_yes rfl (by assumption) ?_ | refine HCode.cond_no rfl (by assumption) ?_ | (refine HCode.cond rfl ?_ ?_ <;> intro hc)
      | refine A.nil_seq ?_ | refine A.nil (fun _ => rfl) ?_ | refine A.dead rfl ?_ | refine A.yes rfl rfl ?_ | refine A.no rfl rfl ?_ | refine A.yes rfl (by assumption) ?_ | refine A.no rfl (by assumption) ?_ | (refine A.guard rfl ?_ ?_ <;> intro hc)
      | refine A.move rfl ?_ | refine A.assign rfl ?_ | refine A.load_b rfl rfl rfl rfl ?_ | refine A.load_r rfl rfl rfl ?_ | refine A.field_b rfl rfl rfl rfl rfl rfl ?_ | refine A.field_r rfl rfl rfl rfl rfl rfl ?_ | refine A.field rfl rfl rfl rfl rfl ?_
      | refine A.index_r rfl rfl rfl rfl rfl rfl (by assumption) rfl ?_ | refine A.len rfl rfl rfl (by first | rw [List.length_map] | rfl) ?_ | refine A.lens rfl rfl rfl rfl ?_
      | refine A.pick_true rfl rfl rfl ?_ | refine A.pick_false rfl rfl rfl ?_ | refine A.pick_true rfl (by assumption) rfl ?_ | refine A.pick_false rfl (by assumption) rfl ?_
      | refine A.box rfl rfl rfl ?_ | refine A.alloc rfl rfl rfl ?_ | refine A.store rfl rfl rfl rfl rfl ?_ | refine A.build rfl rfl rfl rfl ?_ | refine A.buildSlice rfl rfl rfl rfl rfl rfl rfl ?_
      | refine A.eqi rfl rfl ?_ | refine A.nei rfl rfl ?_ | refine A.lss rfl rfl ?_ | refine A.leq rfl rfl ?_ | refine A.gtr rfl rfl ?_ | refine A.geq rfl rfl ?_ | refine A.eqb rfl rfl rfl rfl ?_ | refine A.neb rfl rfl rfl rfl ?_ | refine A.eqs rfl rfl ?_ | refine A.nes rfl rfl ?_ | refine A.lts rfl rfl ?_ | refine A.gts rfl rfl ?_
      | refine A.not rfl ?_ | refine A.extract rfl rfl ?_ | refine A.add64 rfl rfl rfl (by omega) ?_ | refine A.sub64 rfl rfl rfl (by omega) ?_
      | refine A.call rfl hg (WeakL.refl _) ?_
    exact ⟨l.length - (k + 1), by omega, [(5, .int .i64 ((k + 1 : Nat) : Int)), (0, .slice (l.map Got.enc) .no), (1, .slice (l.map Got.enc) .no)],
      ⟨rfl, rfl, rfl, trivial⟩, by simp [belowS, AV.low, Got.lowL], rfl, k + 1, rfl, by omega, rfl, rfl⟩
  · have d1 : decide ((k : Int) < (l.length : Int)) = false := by simp; omega
    repeat' first
      | refine HCode.seq ?_ | refine HCode.region rfl ?_ | refine HCode.region_draw Lay.mix rfl ?_ | refine HCode.block ?_ | refine HCode.scope ?_ | refine HCode.skip ?_ | refine HCode.label ?_ | refine HCode.exit ?_ | refine HCode.ret ?_
      | refine HCode.cond_true rfl ?_ | refine HCode.cond_false rfl ?_ | refine HCode.cond_yes rfl (by assumption) ?_ | refine HCode.cond_no rfl (by assumption) ?_ | (refine HCode.cond rfl ?_ ?_ <;> intro hc)
      | refine A.nil_seq ?_ | refine A.nil (fun _ => rfl) ?_ | refine A.dead rfl ?_ | refine A.yes rfl rfl ?_ | refine A.no rfl rfl ?_ | refine A.yes rfl (by assumption) ?_ | refine A.no rfl (by assumption) ?_ | (refine A.guard rfl ?_ ?_ <;> intro hc)
      | refine A.move rfl ?_ | refine A.assign rfl ?_ | refine A.load_b rfl rfl rfl rfl ?_ | refine A.load_r rfl rfl rfl ?_ | refine A.field_b rfl rfl rfl rfl rfl rfl ?_ | refine A.field_r rfl rfl rfl rfl rfl rfl ?_ | refine A.field rfl rfl rfl rfl rfl ?_
      | refine A.index_r rfl rfl rfl rfl rfl rfl (by assumption) rfl ?_ | refine A.len rfl rfl rfl (by first | rw [List.length_map] | rfl) ?_ | refine A.lens rfl rfl rfl rfl ?_
      | refine A.pick_true rfl rfl rfl ?_ | refine A.pick_false rfl rfl rfl ?_ | refine A.pick_true rfl (by assumption) rfl ?_ | refine A.pick_false rfl (by assumption) rfl ?_
      | refine A.box rfl rfl rfl ?_ | refine A.alloc rfl rfl rfl ?_ | refine A.store rfl rfl rfl rfl rfl ?_ | refine A.build rfl rfl rfl rfl ?_ | refine A.buildSlice rfl rfl rfl rfl rfl rfl rfl ?_
      | refine A.eqi rfl rfl ?_ | refine A.nei rfl rfl ?_ | refine A.lss rfl rfl ?_ | refine A.leq rfl rfl ?_ | refine A.gtr rfl rfl ?_ | refine A.geq rfl rfl ?_ | refine A.eqb rfl rfl rfl rfl ?_ | refine A.neb rfl rfl rfl rfl ?_ | refine A.eqs rfl rfl ?_ | refine A.nes rfl rfl ?_ | refine A.lts rfl rfl ?_ | refine A.gts rfl rfl ?_
      | refine A.not rfl ?_ | refine A.extract rfl rfl ?_ | refine A.add64 rfl rfl rfl (by omega) ?_ | refine A.sub64 rfl rfl rfl (by omega) ?_
    exact Fin.ret1 rfl (Weak.refl _)

/-! Few and small ones. -/
def lightKeys : List Str → Int → Int
  | [], n => n
  | k :: l, n => lightKeys l (w64 (w64 (n + 1) + k.length))
theorem lightKeys_drop {l : List Str} {k : Nat} (h : k < l.length) (n : Int) : lightKeys (l.drop k) n = lightKeys (l.drop (k + 1)) (w64 (w64 (n + 1) + l[k].length)) := by
  rw [List.drop_eq_getElem_cons h, lightKeys]
def lightAsks : List Ask → Int → Option Int
  | [], n => some n
  | o :: l, n => if lightCmd o.c then lightAsks l (lightKeys o.b.keys (w64 (w64 (n + 1) + o.b.table.length))) else none
theorem lightAsks_drop {l : List Ask} {k : Nat} (h : k < l.length) (n : Int) : lightAsks (l.drop k) n = if lightCmd l[k].c then lightAsks (l.drop (k + 1)) (lightKeys l[k].b.keys (w64 (w64 (n + 1) + l[k].b.table.length))) else none := by
  rw [List.drop_eq_getElem_cons h, lightAsks]
def lightA (l : List Ask) : Bool := match lightAsks l 0 with
  | none => false
  | some n => decide ((l.length : Int) ≤ 40) && decide (n ≤ 3000)
theorem light29 (l : List Ask) (hl : l.length ≤ 1048576) (hk : ∀ o ∈ l, o.b.keys.length ≤ 1048576) (hc : ∀ o ∈ l, sumSize Mem.size o.c.args ≤ 1048576) : PFn Try.prog 35 [.slice (l.map Ask.enc) .no] (.bool (lightA l)) := by
  refine AFn.plain rfl (by simp [AV.closedL, AV.closed, Ask.closedL]) (AFn.enter [2] Try.func35 rfl rfl rfl rfl rfl (by decide) ?_)
  have hlo : ∀ n m, AV.lowL n m (l.map Ask.enc) = true := fun n m => AV.lowL_of_closed n m _ (Ask.closedL l)
  repeat' first
    | refine HCode.seq ?_ | refine HCode.region rfl ?_ | refine HCode.region_draw Lay.mix rfl ?_ | refine HCode.block ?_ | refine HCode.scope ?_ | refine HCode.skip ?_ | refine HCode.label ?_ | refine HCode.exit ?_ | refine HCode.ret ?_
    | refine HCode.cond_true rfl ?_ | refine HCode.cond_false rfl ?_ | refine HCode.cond_yes rfl (by assumption) ?_ | refine HCode.cond_no rfl (by assumption) ?_ | (refine HCode.cond rfl ?_ ?_ <;> intro hc)
    | refine A.nil_seq ?_ | refine A.nil (fun _ => rfl) ?_ | refine A.dead rfl ?_ | refine A.yes rfl rfl ?_ | refine A.no rfl rfl ?_ | refine A.yes rfl (by assumption) ?_ | refine A.no rfl (by assumption) ?_ | (refine A.guard rfl ?_ ?_ <;> intro hc)
    | refine A.move rfl ?_ | refine A.assign rfl ?_ | refine A.load_b rfl rfl rfl rfl ?_ | refine A.load_r rfl rfl rfl ?_ | refine A.field_b rfl rfl rfl rfl rfl rfl ?_ | refine A.field_r rfl rfl rfl rfl rfl rfl ?_ | refine A.field rfl rfl rfl rfl rfl ?_
    | refine A.index_r rfl rfl rfl rfl rfl rfl (by assumption) rfl ?_ | refine A.len rfl rfl rfl (by first | rw [List.length_map] | rfl) ?_ | refine A.lens rfl rfl rfl rfl ?_
    | refine A.pick_true rfl rfl rfl ?_ | refine A.pick_false rfl rfl rfl ?_ | refine A.pick_true rfl (by assumption) rfl ?_ | refine A.pick_false rfl (by assumption) rfl ?_
    | refine A.box rfl rfl rfl ?_ | refine A.alloc rfl rfl rfl ?_ | refine A.store rfl rfl rfl rfl rfl ?_ | refine A.build rfl rfl rfl rfl ?_ | refine A.buildSlice rfl rfl rfl rfl rfl rfl rfl ?_
    | refine A.eqi rfl rfl ?_ | refine A.nei rfl rfl ?_ | refine A.lss rfl rfl ?_ | refine A.leq rfl rfl ?_ | refine A.gtr rfl rfl ?_ | refine A.geq rfl rfl ?_ | refine A.eqb rfl rfl rfl rfl ?_ | refine A.neb rfl rfl rfl rfl ?_ | refine A.eqs rfl rfl ?_ | refine A.nes rfl rfl ?_ | refine A.lts rfl rfl ?_ | refine A.gts rfl rfl ?_
    | refine A.not rfl ?_ | refine A.extract rfl rfl ?_ | refine A.add64 rfl rfl rfl (by omega) ?_ | refine A.sub64 rfl rfl rfl (by omega) ?_
  change HCode _ _ _ _ _ _ _
  refine HCode.loop (fun n s σ => ∃ (k : Nat) (c : Int), n = l.length - k ∧ k ≤ l.length ∧ lightAsks l 0 = lightAsks (l.drop k) c ∧ σ = ⟨[], []⟩ ∧ s = [(4, .int .i64 k), (3, .int .i64 c), (0, .slice (l.map Ask.enc) .no)])
    (s0 := [(4, .int .i64 (0 : Nat)), (3, .int .i64 0), (0, .slice (l.map Ask.enc) .no)]) ⟨rfl, rfl, rfl, trivial⟩ ⟨0, _, rfl, Nat.zero_le _, rfl, rfl, rfl⟩ ?_
  rintro n s σ ⟨k, c, rfl, hk', hp, rfl, rfl⟩
  by_cases h1 : k < l.length
  · have d1 : decide ((k : Int) < (l.length : Int)) = true := by simp [h1]
    have x1 := map_get' (f := Ask.enc) h1
    have hrl := hk _ (List.getElem_mem h1)
    have hlc := lightC l[k].c (hc _ (List.getElem_mem h1))
    rw [lightAsks_drop h1] at hp
    repeat' first
      | refine HCode.seq ?_ | refine HCode.region rfl ?_ | refine HCode.region_draw Lay.mix rfl ?_ | refine HCode.block ?_ | refine HCode.scope ?_ | refine HCode.skip ?_ | refine HCode.label ?_ | refine HCode.exit ?_ | refine HCode.ret ?_
      | refine HCode.cond_true rfl ?_ | refine HCode.cond_false rfl ?_ | refine HCode.cond_yes rfl (by assumption) ?_ | refine HCode.cond_no rfl (by assumption) ?_ | (refine HCode.cond rfl ?_ ?_ <;> intro hc)
      | refine A.nil_seq ?_ | refine A.nil (fun _ => rfl) ?_ | refine A.dead rfl ?_ | refine A.yes rfl rfl ?_ | refine A.no rfl rfl ?_ | refine A.yes rfl (by assumption) ?_ | refine A.no rfl (by assumption) ?_ | (refine A.guard rfl ?_ ?_ <;> intro hc)
      | refine A.move rfl ?_ | refine A.assign rfl ?_ | refine A.load_b rfl rfl rfl rfl ?_ | refine A.load_r rfl rfl rfl ?_ | refine A.field_b rfl rfl rfl rfl rfl rfl ?_ | refine A.field_r rfl rfl rfl rfl rfl rfl ?_ | refine A.field rfl rfl rfl rfl rfl ?_
      | refine A.index_r rfl rfl rfl rfl rfl rfl (by assumption) rfl ?_ | refine A.len rfl rfl rfl (by first | rw [List.length_map] | rfl) ?_ | refine A.lens rfl rfl rfl rfl ?_
      | refine A.pick_true rfl rfl rfl ?_ | refine A.pick_false rfl rfl rfl ?_ | refine A.pick_true rfl (by assumption) rfl ?_ | refine A.pick_false rfl (by assumption) rfl ?_
      | refine A.box rfl rfl rfl ?_ | refine A.alloc rfl rfl rfl ?_ | refine A.store rfl rfl rfl rfl rfl ?_ | refine A.build rfl rfl rfl rfl ?_ | refine A.buildSlice rfl rfl rfl rfl rfl rfl rfl ?_
      | refine A.eqi rfl rfl ?_ | refine A.nei rfl rfl ?_ | refine A.lss rfl rfl ?_ | refine A.leq rfl rfl ?_ | refine A.gtr rfl rfl ?_ | refine A.geq rfl rfl ?_ | refine A.eqb rfl rfl rfl rfl ?_ | refine A.neb rfl rfl rfl rfl ?_ | refine A.eqs rfl rfl ?_ | refine A.nes rfl rfl ?_ | refine A.lts rfl rfl ?_ | refine A.gts rfl rfl ?_
      | refine A.not rfl ?_ | refine A.extract rfl rfl ?_ | refine A.add64 rfl rfl rfl (by omega) ?_ | refine A.sub64 rfl rfl rfl (by omega) ?_
      | refine A.add rfl rfl ?_
    change HCode _ _ _ _ _ _ _
    refine HCode.loop (fun n s σ => ∃ (j : Nat) (c' : Int), n = l[k].b.keys.length - j ∧ j ≤ l[k].b.keys.length ∧ lightKeys l[k].b.keys (w64 (w64 (c + 1) + l[k].b.table.length)) = lightKeys (l[k].b.keys.drop j) c' ∧ σ = ⟨[], []⟩ ∧ s = [(5, .int .i64 j), (3, .int .i64 c'), (4, .int .i64 k), (0, .slice (l.map Ask.enc) .no)])
      (s0 := [(5, .int .i64 (0 : Nat)), (3, .int .i64 (w64 (w64 (c + 1) + l[k].b.table.length))), (4, .int .i64 k), (0, .slice (l.map Ask.enc) .no)]) ⟨rfl, rfl, rfl, rfl, trivial⟩ ⟨0, _, rfl, Nat.zero_le _, rfl, rfl, rfl⟩ ?_
    rintro n s σ ⟨j, c', rfl, hj, hp2, rfl, rfl⟩
    by_cases h2 : j < l[k].b.keys.length
    · have d2 : decide ((j : Int) < (l[k].b.keys.length : Int)) = true := by simp [h2]
      have x2 := map_get' (f := AV.str) h2
      repeat' first
        | refine HCode.seq ?_ | refine HCode.region rfl ?_ | refine HCode.region_draw Lay.mix rfl ?_ | refine HCode.block ?_ | refine HCode.scope ?_ | refine HCode.skip ?_ | refine HCode.label ?_ | refine HCode.exit ?_ | refine HCode.ret ?_
        | refine HCode.cond_true rfl ?_ | refine HCode.cond_false rfl ?_ | refine HCode.cond_yes rfl (by assumption) ?_ | refine HCode.cond_no rfl (by assumption) ?_ | (refine HCode.cond rfl ?_ ?_ <;> intro hc)
        | refine A.nil_seq ?_ | refine A.nil (fun _ => rfl) ?_ | refine A.dead rfl ?_ | refine A.yes rfl rfl ?_ | refine A.no rfl rfl ?_ | refine A.yes rfl (by assumption) ?_ | refine A.no rfl (by assumption) ?_ | (refine A.guard rfl ?_ ?_ <;> intro hc)
        | refine A.move rfl ?_ | refine A.assign rfl ?_ | refine A.load_b rfl rfl rfl rfl ?_ | refine A.load_r rfl rfl rfl ?_ | refine A.field_b rfl rfl rfl rfl rfl rfl ?_ | refine A.field_r rfl rfl rfl rfl rfl rfl ?_ | refine A.field rfl rfl rfl rfl rfl ?_
        | refine A.index_r rfl rfl rfl rfl rfl rfl (by assumption) rfl ?_ | refine A.len rfl rfl rfl (by first | rw [List.length_map] | rfl) ?_ | refine A.lens rfl rfl rfl rfl ?_
        | refine A.pick_true rfl rfl rfl ?_ | refine A.pick_false rfl rfl rfl ?_ | refine A.pick_true rfl (by assumption) rfl ?_ | refine A.pick_false rfl (by assumption) rfl ?_
        | refine A.box rfl rfl rfl ?_ | refine A.alloc rfl rfl rfl ?_ | refine A.store rfl rfl rfl rfl rfl ?_ | refine A.build rfl rfl rfl rfl ?_ | refine A.buildSlice rfl rfl rfl rfl rfl rfl rfl ?_
        | refine A.eqi rfl rfl ?_ | refine A.nei rfl rfl ?_ | refine A.lss rfl rfl ?_ | refine A.leq rfl rfl ?_ | refine A.gtr rfl rfl ?_ | refine A.geq rfl rfl ?_ | refine A.eqb rfl rfl rfl rfl ?_ | refine A.neb rfl rfl rfl rfl ?_ | refine A.eqs rfl rfl ?_ | refine A.nes rfl rfl ?_ | refine A.lts rfl rfl ?_ | refine A.gts rfl rfl ?_
        | refine A.not rfl ?_ | refine A.extract rfl rfl ?_ | refine A.add64 rfl rfl rfl (by omega) ?_ | refine A.sub64 rfl rfl rfl (by omega) ?_
        | refine A.add rfl rfl ?_
      exact ⟨l[k].b.keys.length - (j + 1), by omega, [(5, .int .i64 ((j + 1 : Nat) : Int)), (3, .int .i64 (w64 (w64 (c' + 1) + l[k].b.keys[j].length))), (4, .int .i64 k), (0, .slice (l.map Ask.enc) .no)],
        ⟨rfl, rfl, rfl, rfl, trivial⟩, by simp [belowS, AV.low, hlo], rfl, j + 1, _, rfl, by omega, by rw [hp2, lightKeys_drop h2], rfl, rfl⟩
    · have d2 : decide ((j : Int) < (l[k].b.keys.length : Int)) = false := by simp; omega
      rw [List.drop_eq_nil_of_le (by omega), lightKeys] at hp2
      rw [hp2] at hp
      cases hlk : lightCmd l[k].c <;> rw [hlk] at hlc hp
      · repeat' first
          | refine HCode.seq ?_ | refine HCode.region rfl ?_ | refine HCode.region_draw Lay.mix rfl ?_ | refine HCode.block ?_ | refine HCode.scope ?_ | refine HCode.skip ?_ | refine HCode.label ?_ | refine HCode.exit ?_ | refine HCode.ret ?_
          | refine HCode.cond_true rfl ?_ | refine HCode.cond_false rfl ?_ | refine HCode.cond_yes rfl (by assumption) ?_ | refine HCode.cond_no rfl (by assumption) ?_ | (refine HCode.cond rfl ?_ ?_ <;> intro hc)
          | refine A.nil_seq ?_ | refine A.nil (fun _ => rfl) ?_ | refine A.dead rfl ?_ | refine A.yes rfl rfl ?_ | refine A.no rfl rfl ?_ | refine A.yes rfl (by assumption) ?_ | refine A.no rfl (by assumption) ?_ | (refine A.guard rfl ?_ ?_ <;> intro hc)
          | refine A.move rfl ?_ | refine A.assign rfl ?_ | refine A.load_b rfl rfl rfl rfl ?_ | refine A.load_r rfl rfl rfl ?_ | refine A.field_b rfl rfl rfl rfl rfl rfl ?_ | refine A.field_r rfl rfl rfl rfl rfl rfl ?_ | refine A.field rfl rfl rfl rfl rfl ?_
          | refine A.index_r rfl rfl rfl rfl rfl rfl (by assumption) rfl ?_ | refine A.len rfl rfl rfl (by first | rw [List.length_map] | rfl) ?_ | refine A.lens rfl rfl rfl rfl ?_
          | refine A.pick_true rfl rfl rfl ?_ | refine A.pick_false rfl rfl rfl ?_ | refine A.pick_true rfl (by assumption) rfl ?_ | refine A.pick_false rfl (by assumption) rfl ?_
          | refine A.box rfl rfl rfl ?_ | refine A.alloc rfl rfl rfl ?_ | refine A.store rfl rfl rfl rfl rfl ?_ | refine A.build rfl rfl rfl rfl ?_ | refine A.buildSlice rfl rfl rfl rfl rfl rfl rfl ?_
          | refine A.eqi rfl rfl ?_ | refine A.nei rfl rfl ?_ | refine A.lss rfl rfl ?_ | refine A.leq rfl rfl ?_ | refine A.gtr rfl rfl ?_ | refine A.geq rfl rfl ?_ | refine A.eqb rfl rfl rfl rfl ?_ | refine A.neb rfl rfl rfl rfl ?_ | refine A.eqs rfl rfl ?_ | refine A.nes rfl rfl ?_ | refine A.lts rfl rfl ?_ | refine A.gts rfl rfl ?_
          | refine A.not rfl ?_ | refine A.extract rfl rfl ?_ | refine A.add64 rfl rfl rfl (by omega) ?_ | refine A.sub64 rfl rfl rfl (by omega) ?_
          | refine A.call rfl hlc (WeakL.refl _) ?_
        refine Fin.ret1 rfl (Weak.eq ?_)
        unfold lightA
        rw [hp]; rfl
      · repeat' first
          | refine HCode.seq ?_ | refine HCode.region rfl ?_ | refine HCode.region_draw Lay.mix rfl ?_ | refine HCode.block ?_ | refine HCode.scope ?_ | refine HCode.skip ?_ | refine HCode.label ?_ | refine HCode.exit ?_ | refine HCode.ret ?_
          | refine HCode.cond_true rfl ?_ | refine HCode.cond_false rfl ?_ | refine HCode.cond_yes rfl (by assumption) ?_ | refine HCode.cond_no rfl (by assumption) ?_ | (refine HCode.cond rfl ?_ ?_ <;> intro hc)
          | refine A.nil_seq ?_ | refine A.nil (fun _ => rfl) ?_ | refine A.dead rfl ?_ | refine A.yes rfl rfl ?_ | refine A.no rfl rfl ?_ | refine A.yes rfl (by assumption) ?_ | refine A.no rfl (by assumption) ?_ | (refine A.guard rfl ?_ ?_ <;> intro hc)
          | refine A.move rfl ?_ | refine A.assign rfl ?_ | refine A.load_b rfl rfl rfl rfl ?_ | refine A.load_r rfl rfl rfl ?_ | refine A.field_b rfl rfl rfl rfl rfl rfl ?_ | refine A.field_r rfl rfl rfl rfl rfl rfl ?_ | refine A.field rfl rfl rfl rfl rfl ?_
          | refine A.index_r rfl rfl rfl rfl rfl rfl (by assumption) rfl ?_ | refine A.len rfl rfl rfl (by first | rw [List.length_map] | rfl) ?_ | refine A.lens rfl rfl rfl rfl ?_
          | refine A.pick_true rfl rfl rfl ?_ | refine A.pick_false rfl rfl rfl ?_ | refine A.pick_true rfl (by assumption) rfl ?_ | refine A.pick_false rfl (by assumption) rfl ?_
          | refine A.box rfl rfl rfl ?_ | refine A.alloc rfl rfl rfl ?_ | refine A.store rfl rfl rfl rfl rfl ?_ | refine A.build rfl rfl rfl rfl ?_ | refine A.buildSlice rfl rfl rfl rfl rfl rfl rfl ?_
          | refine A.eqi rfl rfl ?_ | refine A.nei rfl rfl ?_ | refine A.lss rfl rfl ?_ | refine A.leq rfl rfl ?_ | refine A.gtr rfl rfl ?_ | refine A.geq rfl rfl ?_ | refine A.eqb rfl rfl rfl rfl ?_ | refine A.neb rfl rfl rfl rfl ?_ | refine A.eqs rfl rfl ?_ | refine A.nes rfl rfl ?_ | refine A.lts rfl rfl ?_ | refine A.gts rfl rfl ?_
          | refine A.not rfl ?_ | refine A.extract rfl rfl ?_ | refine A.add64 rfl rfl rfl (by omega) ?_ | refine A.sub64 rfl rfl rfl (by omega) ?_
          | refine A.call rfl hlc (WeakL.refl _) ?_
        exact ⟨l.length - (k + 1), by omega, [(4, .int .i64 ((k + 1 : Nat) : Int)), (3, .int .i64 c'), (0, .slice (l.map Ask.enc) .no)],
          ⟨rfl, rfl, rfl, trivial⟩, by simp [belowS, AV.low, hlo], rfl, k + 1, _, rfl, by omega, hp, rfl, rfl⟩
  · have d1 : decide ((k : Int) < (l.length : Int)) = false := by simp; omega
    rw [List.drop_eq_nil_of_le (by omega), lightAsks] at hp
    repeat' first
      | refine HCode.seq ?_ | refine HCode.region rfl ?_ | refine HCode.region_draw Lay.mix rfl ?_ | refine HCode.block ?_ | refine HCode.scope ?_ | refine HCode.skip ?_ | refine HCode.label ?_ | refine HCode.exit ?_ | refine HCode.ret ?_
      | refine HCode.cond_true rfl ?_ | refine HCode.cond_false rfl ?_ | refine HCode.cond_yes rfl (by assumption) ?_ | refine HCode.cond_no rfl (by assumption) ?_ | (refine HCode.cond rfl ?_ ?_ <;> intro hc)
      | refine A.nil_seq ?_ | refine A.nil (fun _ => rfl) ?_ | refine A.dead rfl ?_ | refine A.yes rfl rfl ?_ | refine A.no rfl rfl ?_ | refine A.yes rfl (by assumption) ?_ | refine A.no rfl (by assumption) ?_ | (refine A.guard rfl ?_ ?_ <;> intro hc)
      | refine A.move rfl ?_ | refine A.assign rfl ?_ | refine A.load_b rfl rfl rfl rfl ?_ | refine A.load_r rfl rfl rfl ?_ | refine A.field_b rfl rfl rfl rfl rfl rfl ?_ | refine A.field_r rfl rfl rfl rfl rfl rfl ?_ | refine A.field rfl rfl rfl rfl rfl ?_
      | refine A.index_r rfl rfl rfl rfl rfl rfl (by assumption) rfl ?_ | refine A.len rfl rfl rfl (by first | rw [List.length_map] | rfl) ?_ | refine A.lens rfl rfl rfl rfl ?_
      | refine A.pick_true rfl rfl rfl ?_ | refine A.pick_false rfl rfl rfl ?_ | refine A.pick_true rfl (by assumption) rfl ?_ | refine A.pick_false rfl (by assumption) rfl ?_
      | refine A.box rfl rfl rfl ?_ | refine A.alloc rfl rfl rfl ?_ | refine A.store rfl rfl rfl rfl rfl ?_ | refine A.build rfl rfl rfl rfl ?_ | refine A.buildSlice rfl rfl rfl rfl rfl rfl rfl ?_
      | refine A.eqi rfl rfl ?_ | refine A.nei rfl rfl ?_ | refine A.lss rfl rfl ?_ | refine A.leq rfl rfl ?_ | refine A.gtr rfl rfl ?_ | refine A.geq rfl rfl ?_ | refine A.eqb rfl rfl rfl rfl ?_ | refine A.neb rfl rfl rfl rfl ?_ | refine A.eqs rfl rfl ?_ | refine A.nes rfl rfl ?_ | refine A.lts rfl rfl ?_ | refine A.gts rfl rfl ?_
      | refine A.not rfl ?_ | refine A.extract rfl rfl ?_ | refine A.add64 rfl rfl rfl (by omega) ?_ | refine A.sub64 rfl rfl rfl (by omega) ?_
    all_goals refine Fin.ret1 rfl (Weak.eq ?_)
    all_goals (unfold lightA; rw [hp]; first | (simp_all; done) | (simp_all; intros; omega))

/-- A store: tables, and a log. -/
@[reducible] def Sto (l : List Tbl) (es : List Entry) : St := ⟨[.cells [Tbls.enc l, .slice (es.map Entry.enc) (.own 0 7)]], [.len es.length]⟩
theorem Sto.low {l : List Tbl} {es : List Entry} : belowB 1 1 [.cells [Tbls.enc l, .slice (es.map Entry.enc) (.own 0 7)]] = true := by
  simp [belowB, Ob.low, AV.lowL, AV.low, Tbls.enc, Tbl.lowL, Entry.lowL]

theorem newS (l : List Tbl) (hf : Fine 1048576 l) : AFn Try.prog 37 [Tbls.enc l] ⟨[], []⟩ (fun e σ => e = .ret (.ptr 0 0) ∧ σ = Sto l []) := by
  refine AFn.meth (nB := 1) (mT := 1) (AFn.enter [2] Try.func37 rfl rfl rfl rfl rfl (by decide) ?_) (by decide) (by decide) rfl Sto.low rfl
  have ht := twinT l hf.len hf.rows hf.cols
  repeat' first
    | refine HCode.adoptB 0 1 true 7 rfl rfl rfl rfl rfl rfl rfl rfl ?_
    | refine HCode.seq ?_ | refine HCode.region rfl ?_ | refine HCode.region_draw Lay.mix rfl ?_ | refine HCode.block ?_ | refine HCode.scope ?_ | refine HCode.skip ?_ | refine HCode.label ?_ | refine HCode.exit ?_ | refine HCode.ret ?_
    | refine HCode.cond_true rfl ?_ | refine HCode.cond_false rfl ?_ | refine HCode.cond_yes rfl (by assumption) ?_ | refine HCode.cond_no rfl (by assumption) ?_ | (refine HCode.cond rfl ?_ ?_ <;> intro hc)
    | refine A.nil_seq ?_ | refine A.nil (fun _ => rfl) ?_ | refine A.dead rfl ?_ | refine A.yes rfl rfl ?_ | refine A.no rfl rfl ?_ | refine A.yes rfl (by assumption) ?_ | refine A.no rfl (by assumption) ?_ | (refine A.guard rfl ?_ ?_ <;> intro hc)
    | refine A.move rfl ?_ | refine A.assign rfl ?_ | refine A.load_b rfl rfl rfl rfl ?_ | refine A.load_r rfl rfl rfl ?_ | refine A.field_b rfl rfl rfl rfl rfl rfl ?_ | refine A.field_r rfl rfl rfl rfl rfl rfl ?_ | refine A.field rfl rfl rfl rfl rfl ?_
    | refine A.index_r rfl rfl rfl rfl rfl rfl (by assumption) rfl ?_ | refine A.len rfl rfl rfl (by first | rw [List.length_map] | rfl) ?_ | refine A.lens rfl rfl rfl rfl ?_
    | refine A.pick_true rfl rfl rfl ?_ | refine A.pick_false rfl rfl rfl ?_ | refine A.pick_true rfl (by assumption) rfl ?_ | refine A.pick_false rfl (by assumption) rfl ?_
    | refine A.box rfl rfl rfl ?_ | refine A.alloc rfl rfl rfl ?_ | refine A.store rfl rfl rfl rfl rfl ?_ | refine A.build rfl rfl rfl rfl ?_ | refine A.buildSlice rfl rfl rfl rfl rfl rfl rfl ?_
    | refine A.eqi rfl rfl ?_ | refine A.nei rfl rfl ?_ | refine A.lss rfl rfl ?_ | refine A.leq rfl rfl ?_ | refine A.gtr rfl rfl ?_ | refine A.geq rfl rfl ?_ | refine A.eqb rfl rfl rfl rfl ?_ | refine A.neb rfl rfl rfl rfl ?_ | refine A.eqs rfl rfl ?_ | refine A.nes rfl rfl ?_ | refine A.lts rfl rfl ?_ | refine A.gts rfl rfl ?_
    | refine A.not rfl ?_ | refine A.extract rfl rfl ?_ | refine A.add64 rfl rfl rfl (by omega) ?_ | refine A.sub64 rfl rfl rfl (by omega) ?_
    | refine A.call rfl ht (WeakL.refl _) ?_
  exact ⟨_, _, rfl, Turn.refl _ _, rfl, rfl⟩

def gots (l : List Tbl) (b : Batch) : List Got := b.keys.map fun k => findG l ⟨b.table, k⟩
theorem gots_length (l : List Tbl) (b : Batch) : (gots l b).length = b.keys.length := List.length_map ..
theorem gots_get {l : List Tbl} {b : Batch} {k : Nat} (h : k < b.keys.length) : (gots l b)[k]'(by rw [gots_length]; exact h) = findG l ⟨b.table, b.keys[k]⟩ := by simp [gots]
theorem own_snoc {es : List Entry} {e : Entry} {x : AV} (h : Weak x e.enc) : Weak (.slice (es.map Entry.enc ++ [x]) (.own 0 7)) (.slice ((es ++ [e]).map Entry.enc) (.own 0 7)) := by
  rw [List.map_append]
  exact Weak.slice (WeakL.app (WeakL.refl _) (WeakL.cons h (WeakL.refl _)))

theorem getS (l : List Tbl) (es : List Entry) (b : Batch) (hf : Fine 1048576 l) (hb : b.keys.length ≤ 1048576) (he : es.length ≤ 1048576) :
    AFn Try.prog 39 [.ptr 0 0, b.enc] (Sto l es) (fun e σ => e = .ret (.slice ((gots l b).map Got.enc) .no) ∧ σ = Sto l (es ++ [⟨b, c0⟩])) := by
  refine AFn.meth (nB := 1) (mT := 1) (AFn.enter [4] Try.func39 rfl rfl rfl rfl rfl (by decide) ?_) (by simp) (by simp) (by simp [AV.low, Got.lowL]) Sto.low rfl
  have hbc := batchC b hb
  have hel : (es.map Entry.enc).length = es.length := List.length_map ..
  have hfl := hf.len
  repeat' first
    | refine A.box_r rfl rfl ?_
    | refine HCode.seq ?_ | refine HCode.region rfl ?_ | refine HCode.region_draw Lay.mix rfl ?_ | refine HCode.block ?_ | refine HCode.scope ?_ | refine HCode.skip ?_ | refine HCode.label ?_ | refine HCode.exit ?_ | refine HCode.ret ?_
    | refine HCode.cond_true rfl ?_ | refine HCode.cond_false rfl ?_ | refine HCode.cond_yes rfl (by assumption) ?_ | refine HCode.cond_no rfl (by assumption) ?_ | (refine HCode.cond rfl ?_ ?_ <;> intro hc)
    | refine A.nil_seq ?_ | refine A.nil (fun _ => rfl) ?_ | refine A.dead rfl ?_ | refine A.yes rfl rfl ?_ | refine A.no rfl rfl ?_ | refine A.yes rfl (by assumption) ?_ | refine A.no rfl (by assumption) ?_ | (refine A.guard rfl ?_ ?_ <;> intro hc)
    | refine A.move rfl ?_ | refine A.assign rfl ?_ | refine A.load_b rfl rfl rfl rfl ?_ | refine A.load_r rfl rfl rfl ?_ | refine A.field_b rfl rfl rfl rfl rfl rfl ?_ | refine A.field_r rfl rfl rfl rfl rfl rfl ?_ | refine A.field rfl rfl rfl rfl rfl ?_
    | refine A.index_r rfl rfl rfl rfl rfl rfl (by assumption) rfl ?_ | refine A.len rfl rfl rfl (by first | rw [List.length_map] | rfl) ?_ | refine A.lens rfl rfl rfl rfl ?_
    | refine A.pick_true rfl rfl rfl ?_ | refine A.pick_false rfl rfl rfl ?_ | refine A.pick_true rfl (by assumption) rfl ?_ | refine A.pick_false rfl (by assumption) rfl ?_
    | refine A.box rfl rfl rfl ?_ | refine A.alloc rfl rfl rfl ?_ | refine A.store rfl rfl rfl rfl rfl ?_ | refine A.build rfl rfl rfl rfl ?_ | refine A.buildSlice rfl rfl rfl rfl rfl rfl rfl ?_
    | refine A.eqi rfl rfl ?_ | refine A.nei rfl rfl ?_ | refine A.lss rfl rfl ?_ | refine A.leq rfl rfl ?_ | refine A.gtr rfl rfl ?_ | refine A.geq rfl rfl ?_ | refine A.eqb rfl rfl rfl rfl ?_ | refine A.neb rfl rfl rfl rfl ?_ | refine A.eqs rfl rfl ?_ | refine A.nes rfl rfl ?_ | refine A.lts rfl rfl ?_ | refine A.gts rfl rfl ?_
    | refine A.not rfl ?_ | refine A.extract rfl rfl ?_ | refine A.add64 rfl rfl rfl (by omega) ?_ | refine A.sub64 rfl rfl rfl (by omega) ?_
    | refine A.peq rfl rfl rfl ?_ | refine A.nilCheck rfl ?_
  change HCode _ _ _ _ _ _ _
  refine HCode.adopt 5 true 6 rfl rfl rfl rfl rfl rfl ?_
  refine HCode.loop (fun n s σ => ∃ k : Nat, n = b.keys.length - k ∧ k ≤ b.keys.length ∧ σ = ⟨[.cells [Tbls.enc l, .slice (es.map Entry.enc) (.own 0 7)]], [.len es.length, .len k]⟩ ∧
    s = [(13, .int .i64 k), (12, .int .i64 b.keys.length), (11, .slice (b.keys.map AV.str) .no), (5, .slice (((gots l b).take k).map Got.enc) (.own 1 6)), (3, .rptr b.enc), (0, .ptr 0 0)])
    (s0 := [(13, .int .i64 (0 : Nat)), (12, .int .i64 b.keys.length), (11, .slice (b.keys.map AV.str) .no), (5, .slice (((gots l b).take 0).map Got.enc) (.own 1 6)), (3, .rptr b.enc), (0, .ptr 0 0)]) ⟨rfl, rfl, rfl, rfl, rfl, rfl, trivial⟩ ⟨0, rfl, Nat.zero_le _, rfl, rfl⟩ ?_
  rintro n s σ ⟨k, rfl, hk, rfl, rfl⟩
  have htl : (((gots l b).take k).map Got.enc).length = k := by simp [gots_length]; omega
  by_cases h1 : k < b.keys.length
  · have d1 : decide ((k : Int) < (b.keys.length : Int)) = true := by simp [h1]
    have x1 := map_get' (f := AV.str) h1
    have hfi := find l ⟨b.table, b.keys[k]⟩ (by omega) (fun t ht => by have := hf.rows t ht; omega) hf.cols
    repeat' first
      | refine HCode.seq ?_ | refine HCode.region rfl ?_ | refine HCode.region_draw Lay.mix rfl ?_ | refine HCode.block ?_ | refine HCode.scope ?_ | refine HCode.skip ?_ | refine HCode.label ?_ | refine HCode.exit ?_ | refine HCode.ret ?_
      | refine HCode.cond_true rfl ?_ | refine HCode.cond_false rfl ?_ | refine HCode.cond_yes rfl (by assumption) ?_ | refine HCode.cond_no rfl (by assumption) ?_ | (refine HCode.cond rfl ?_ ?_ <;> intro hc)
      | refine A.nil_seq ?_ | refine A.nil (fun _ => rfl) ?_ | refine A.dead rfl ?_ | refine A.yes rfl rfl ?_ | refine A.no rfl rfl ?_ | refine A.yes rfl (by assumption) ?_ | refine A.no rfl (by assumption) ?_ | (refine A.guard rfl ?_ ?_ <;> intro hc)
      | refine A.move rfl ?_ | refine A.assign rfl ?_ | refine A.load_b rfl rfl rfl rfl ?_ | refine A.load_r rfl rfl rfl ?_ | refine A.field_b rfl rfl rfl rfl rfl rfl ?_ | refine A.field_r rfl rfl rfl rfl rfl rfl ?_ | refine A.field rfl rfl rfl rfl rfl ?_
      | refine A.index_r rfl rfl rfl rfl rfl rfl (by assumption) rfl ?_ | refine A.len rfl rfl rfl (by first | rw [List.length_map] | rfl) ?_ | refine A.lens rfl rfl rfl rfl ?_
      | refine A.pick_true rfl rfl rfl ?_ | refine A.pick_false rfl rfl rfl ?_ | refine A.pick_true rfl (by assumption) rfl ?_ | refine A.pick_false rfl (by assumption) rfl ?_
      | refine A.box rfl rfl rfl ?_ | refine A.alloc rfl rfl rfl ?_ | refine A.store rfl rfl rfl rfl rfl ?_ | refine A.build rfl rfl rfl rfl ?_ | refine A.buildSlice rfl rfl rfl rfl rfl rfl rfl ?_
      | refine A.eqi rfl rfl ?_ | refine A.nei rfl rfl ?_ | refine A.lss rfl rfl ?_ | refine A.leq rfl rfl ?_ | refine A.gtr rfl rfl ?_ | refine A.geq rfl rfl ?_ | refine A.eqb rfl rfl rfl rfl ?_ | refine A.neb rfl rfl rfl rfl ?_ | refine A.eqs rfl rfl ?_ | refine A.nes rfl rfl ?_ | refine A.lts rfl rfl ?_ | refine A.gts rfl rfl ?_
      | refine A.not rfl ?_ | refine A.extract rfl rfl ?_ | refine A.add64 rfl rfl rfl (by omega) ?_ | refine A.sub64 rfl rfl rfl (by omega) ?_
      | refine A.nilCheck rfl ?_ | refine A.call rfl hfi (WeakL.refl _) ?_ | refine A.append (n := k) rfl rfl rfl rfl rfl rfl rfl rfl htl rfl (by dsimp only [List.length_cons, List.length_nil]; omega) (by dsimp only [List.length_cons, List.length_nil]; omega) rfl ?_
    refine ⟨b.keys.length - (k + 1), by omega, [(13, .int .i64 ((k + 1 : Nat) : Int)), (12, .int .i64 b.keys.length), (11, .slice (b.keys.map AV.str) .no), (5, .slice (((gots l b).take (k + 1)).map Got.enc) (.own 1 6)), (3, .rptr b.enc), (0, .ptr 0 0)],
      ⟨rfl, rfl, rfl, ?_, rfl, rfl, trivial⟩, by simp [-List.map_take, belowS, belowB, belowT, Tok.low, Ob.low, AV.low, AV.lowL, Got.lowL, Entry.lowL, Tbls.enc, Tbl.lowL, AV.lowL_of_closed _ _ _ (strs_closed _), AV.low_of_closed _ _ _ (Batch.closed b)], by simp [belowB, belowT, Tok.low, Ob.low, AV.low, AV.lowL, Entry.lowL, Tbls.enc, Tbl.lowL], k + 1, rfl, by omega, rfl, rfl⟩
    rw [← take_enc' (f := Got.enc) (l := gots l b) (by rw [gots_length]; exact h1), gots_get h1]
    rfl
  · have d1 : decide ((k : Int) < (b.keys.length : Int)) = false := by simp; omega
    have hx : Weak (.slice (es.map Entry.enc ++ [.agg [.str b.table, .slice (b.keys.map AV.str) .no, .str [], .str [], .str [], .str [], .slice [] .nil]]) (.own 0 7)) (.slice ((es ++ [(⟨b, c0⟩ : Entry)]).map Entry.enc) (.own 0 7)) :=
      own_snoc (e := ⟨b, c0⟩) (Weak.agg (WeakL.cons (Weak.refl _) (WeakL.cons (Weak.refl _) (WeakL.cons (Weak.refl _) (WeakL.cons (Weak.refl _) (WeakL.cons (Weak.refl _) (WeakL.cons (Weak.refl _) (WeakL.cons (Weak.no (WeakL.refl _)) (WeakL.refl _)))))))))
    repeat' first
      | refine HCode.turnB 0 1 rfl rfl (Turn.weak hx) rfl ?_
      | refine HCode.seq ?_ | refine HCode.region rfl ?_ | refine HCode.region_draw Lay.mix rfl ?_ | refine HCode.block ?_ | refine HCode.scope ?_ | refine HCode.skip ?_ | refine HCode.label ?_ | refine HCode.exit ?_ | refine HCode.ret ?_
      | refine HCode.cond_true rfl ?_ | refine HCode.cond_false rfl ?_ | refine HCode.cond_yes rfl (by assumption) ?_ | refine HCode.cond_no rfl (by assumption) ?_ | (refine HCode.cond rfl ?_ ?_ <;> intro hc)
      | refine A.nil_seq ?_ | refine A.nil (fun _ => rfl) ?_ | refine A.dead rfl ?_ | refine A.yes rfl rfl ?_ | refine A.no rfl rfl ?_ | refine A.yes rfl (by assumption) ?_ | refine A.no rfl (by assumption) ?_ | (refine A.guard rfl ?_ ?_ <;> intro hc)
      | refine A.move rfl ?_ | refine A.assign rfl ?_ | refine A.load_b rfl rfl rfl rfl ?_ | refine A.load_r rfl rfl rfl ?_ | refine A.field_b rfl rfl rfl rfl rfl rfl ?_ | refine A.field_r rfl rfl rfl rfl rfl rfl ?_ | refine A.field rfl rfl rfl rfl rfl ?_
      | refine A.index_r rfl rfl rfl rfl rfl rfl (by assumption) rfl ?_ | refine A.len rfl rfl rfl (by first | rw [List.length_map] | rfl) ?_ | refine A.lens rfl rfl rfl rfl ?_
      | refine A.pick_true rfl rfl rfl ?_ | refine A.pick_false rfl rfl rfl ?_ | refine A.pick_true rfl (by assumption) rfl ?_ | refine A.pick_false rfl (by assumption) rfl ?_
      | refine A.box rfl rfl rfl ?_ | refine A.alloc rfl rfl rfl ?_ | refine A.store rfl rfl rfl rfl rfl ?_ | refine A.build rfl rfl rfl rfl ?_ | refine A.buildSlice rfl rfl rfl rfl rfl rfl rfl ?_
      | refine A.eqi rfl rfl ?_ | refine A.nei rfl rfl ?_ | refine A.lss rfl rfl ?_ | refine A.leq rfl rfl ?_ | refine A.gtr rfl rfl ?_ | refine A.geq rfl rfl ?_ | refine A.eqb rfl rfl rfl rfl ?_ | refine A.neb rfl rfl rfl rfl ?_ | refine A.eqs rfl rfl ?_ | refine A.nes rfl rfl ?_ | refine A.lts rfl rfl ?_ | refine A.gts rfl rfl ?_
      | refine A.not rfl ?_ | refine A.extract rfl rfl ?_ | refine A.add64 rfl rfl rfl (by omega) ?_ | refine A.sub64 rfl rfl rfl (by omega) ?_
      | refine A.nilCheck rfl ?_ | refine A.call rfl hbc (WeakL.refl _) ?_
      | refine A.append (n := es.length) rfl rfl rfl rfl rfl rfl rfl rfl hel rfl (by dsimp only [List.length_cons, List.length_nil]; omega) (by dsimp only [List.length_cons, List.length_nil]; omega) rfl ?_
    refine ⟨_, _, rfl, Turn.weak (Weak.no (WeakL.eq ?_)), rfl, by simp⟩
    rw [List.take_of_length_le (by rw [gots_length]; omega)]

theorem doS (l : List Tbl) (es : List Entry) (c : Cmd) {B : Nat} (hf : Fine B l) (hB : B + c.args.length + 1 ≤ 1048576) (he : es.length ≤ 1048576) :
    AFn Try.prog 38 [.ptr 0 0, c.enc] (Sto l es) (fun e σ => e = .ret (.tup [(cmdG l c).2.1.enc, .int .i64 (cmdG l c).2.2]) ∧ σ = Sto (cmdG l c).1 (es ++ [⟨b0, c⟩])) := by
  refine AFn.meth (nB := 1) (mT := 1) (AFn.enterR [.cell 4 32, .tmp 5] Try.func38 rfl rfl rfl rfl rfl ?_) (by simp) (by simp) (AV.low_of_closed _ _ _ (by simp [AV.closed, AV.closedL, Val.closed])) Sto.low rfl
  have hcc := cmdC c (by omega)
  have hd := cmdDo l c hf hB
  have hel : (es.map Entry.enc).length = es.length := List.length_map ..
  have hx : Weak (.slice (es.map Entry.enc ++ [.agg [.str [], .slice [] .nil, .str c.name, .str c.table, .str c.col, .str c.typ, .slice (c.args.map Mem.enc) .no]]) (.own 0 7)) (.slice ((es ++ [(⟨b0, c⟩ : Entry)]).map Entry.enc) (.own 0 7)) :=
    own_snoc (e := ⟨b0, c⟩) (Weak.agg (WeakL.cons (Weak.refl _) (WeakL.cons (Weak.no (WeakL.refl _)) (WeakL.refl _))))
  repeat' first
    | refine A.allocv (d := 7) rfl rfl rfl rfl rfl ?_ | refine HCode.turnB 0 1 rfl rfl (Turn.weak hx) rfl ?_ | refine A.box_r rfl rfl ?_
    | refine HCode.seq ?_ | refine HCode.region rfl ?_ | refine HCode.region_draw Lay.mix rfl ?_ | refine HCode.block ?_ | refine HCode.scope ?_ | refine HCode.skip ?_ | refine HCode.label ?_ | refine HCode.exit ?_ | refine HCode.ret ?_
    | refine HCode.cond_true rfl ?_ | refine HCode.cond_false rfl ?_ | refine HCode.cond_yes rfl (by assumption) ?_ | refine HCode.cond_no rfl (by assumption) ?_ | (refine HCode.cond rfl ?_ ?_ <;> intro hc)
    | refine A.nil_seq ?_ | refine A.nil (fun _ => rfl) ?_ | refine A.dead rfl ?_ | refine A.yes rfl rfl ?_ | refine A.no rfl rfl ?_ | refine A.yes rfl (by assumption) ?_ | refine A.no rfl (by assumption) ?_ | (refine A.guard rfl ?_ ?_ <;> intro hc)
    | refine A.move rfl ?_ | refine A.assign rfl ?_ | refine A.load_b rfl rfl rfl rfl ?_ | refine A.load_r rfl rfl rfl ?_ | refine A.field_b rfl rfl rfl rfl rfl rfl ?_ | refine A.field_r rfl rfl rfl rfl rfl rfl ?_ | refine A.field rfl rfl rfl rfl rfl ?_
    | refine A.index_r rfl rfl rfl rfl rfl rfl (by assumption) rfl ?_ | refine A.len rfl rfl rfl (by first | rw [List.length_map] | rfl) ?_ | refine A.lens rfl rfl rfl rfl ?_
    | refine A.pick_true rfl rfl rfl ?_ | refine A.pick_false rfl rfl rfl ?_ | refine A.pick_true rfl (by assumption) rfl ?_ | refine A.pick_false rfl (by assumption) rfl ?_
    | refine A.box rfl rfl rfl ?_ | refine A.alloc rfl rfl rfl ?_ | refine A.store rfl rfl rfl rfl rfl ?_ | refine A.build rfl rfl rfl rfl ?_ | refine A.buildSlice rfl rfl rfl rfl rfl rfl rfl ?_
    | refine A.eqi rfl rfl ?_ | refine A.nei rfl rfl ?_ | refine A.lss rfl rfl ?_ | refine A.leq rfl rfl ?_ | refine A.gtr rfl rfl ?_ | refine A.geq rfl rfl ?_ | refine A.eqb rfl rfl rfl rfl ?_ | refine A.neb rfl rfl rfl rfl ?_ | refine A.eqs rfl rfl ?_ | refine A.nes rfl rfl ?_ | refine A.lts rfl rfl ?_ | refine A.gts rfl rfl ?_
    | refine A.not rfl ?_ | refine A.extract rfl rfl ?_ | refine A.add64 rfl rfl rfl (by omega) ?_ | refine A.sub64 rfl rfl rfl (by omega) ?_
    | refine A.vload rfl rfl rfl rfl rfl rfl ?_ | refine A.vstore (agg := true) rfl rfl rfl rfl rfl rfl rfl rfl rfl rfl rfl ?_ | refine A.peq rfl rfl rfl ?_ | refine A.nilCheck rfl ?_ | refine A.call rfl hd (WeakL.refl _) ?_ | refine A.call rfl hcc (WeakL.refl _) ?_
    | refine A.append (n := es.length) rfl rfl rfl rfl rfl rfl rfl rfl hel rfl (by dsimp only [List.length_cons, List.length_nil]; omega) (by dsimp only [List.length_cons, List.length_nil]; omega) rfl ?_
  exact ⟨_, rfl, _, _, rfl, Turn.weak (Weak.refl _), rfl, by simp⟩

theorem tablesS (l : List Tbl) (es : List Entry) (hf : Fine 1048576 l) :
    AFn Try.prog 42 [.ptr 0 0] (Sto l es) (fun e σ => e = .ret (Tbls.enc l) ∧ σ = Sto l es) := by
  refine AFn.meth (nB := 1) (mT := 1) (AFn.enter [2] Try.func42 rfl rfl rfl rfl rfl (by decide) ?_) (by simp) (by simp) (AV.low_of_closed _ _ _ (Tbls.closed l)) Sto.low rfl
  have ht := twinT l hf.len hf.rows hf.cols
  repeat' first
    | refine HCode.seq ?_ | refine HCode.region rfl ?_ | refine HCode.region_draw Lay.mix rfl ?_ | refine HCode.block ?_ | refine HCode.scope ?_ | refine HCode.skip ?_ | refine HCode.label ?_ | refine HCode.exit ?_ | refine HCode.ret ?_
    | refine HCode.cond_true rfl ?_ | refine HCode.cond_false rfl ?_ | refine HCode.cond_yes rfl (by assumption) ?_ | refine HCode.cond_no rfl (by assumption) ?_ | (refine HCode.cond rfl ?_ ?_ <;> intro hc)
    | refine A.nil_seq ?_ | refine A.nil (fun _ => rfl) ?_ | refine A.dead rfl ?_ | refine A.yes rfl rfl ?_ | refine A.no rfl rfl ?_ | refine A.yes rfl (by assumption) ?_ | refine A.no rfl (by assumption) ?_ | (refine A.guard rfl ?_ ?_ <;> intro hc)
    | refine A.move rfl ?_ | refine A.assign rfl ?_ | refine A.load_b rfl rfl rfl rfl ?_ | refine A.load_r rfl rfl rfl ?_ | refine A.field_b rfl rfl rfl rfl rfl rfl ?_ | refine A.field_r rfl rfl rfl rfl rfl rfl ?_ | refine A.field rfl rfl rfl rfl rfl ?_
    | refine A.index_r rfl rfl rfl rfl rfl rfl (by assumption) rfl ?_ | refine A.len rfl rfl rfl (by first | rw [List.length_map] | rfl) ?_ | refine A.lens rfl rfl rfl rfl ?_
    | refine A.pick_true rfl rfl rfl ?_ | refine A.pick_false rfl rfl rfl ?_ | refine A.pick_true rfl (by assumption) rfl ?_ | refine A.pick_false rfl (by assumption) rfl ?_
    | refine A.box rfl rfl rfl ?_ | refine A.alloc rfl rfl rfl ?_ | refine A.store rfl rfl rfl rfl rfl ?_ | refine A.build rfl rfl rfl rfl ?_ | refine A.buildSlice rfl rfl rfl rfl rfl rfl rfl ?_
    | refine A.eqi rfl rfl ?_ | refine A.nei rfl rfl ?_ | refine A.lss rfl rfl ?_ | refine A.leq rfl rfl ?_ | refine A.gtr rfl rfl ?_ | refine A.geq rfl rfl ?_ | refine A.eqb rfl rfl rfl rfl ?_ | refine A.neb rfl rfl rfl rfl ?_ | refine A.eqs rfl rfl ?_ | refine A.nes rfl rfl ?_ | refine A.lts rfl rfl ?_ | refine A.gts rfl rfl ?_
    | refine A.not rfl ?_ | refine A.extract rfl rfl ?_ | refine A.add64 rfl rfl rfl (by omega) ?_ | refine A.sub64 rfl rfl rfl (by omega) ?_
    | refine A.peq rfl rfl rfl ?_ | refine A.nilCheck rfl ?_ | refine A.call rfl ht (WeakL.refl _) ?_
  exact ⟨_, _, rfl, Turn.refl _ _, rfl, rfl⟩

theorem logS (l : List Tbl) (es : List Entry) (he : es.length ≤ 1048576) (hk : ∀ e ∈ es, e.b.keys.length ≤ 1048576) (ha : ∀ e ∈ es, e.c.args.length ≤ 1048576) :
    AFn Try.prog 43 [.ptr 0 0] (Sto l es) (fun e σ => e = .ret (.slice (es.map Entry.enc) .no) ∧ σ = Sto l es) := by
  refine AFn.meth (nB := 1) (mT := 1) (AFn.enter [2] Try.func43 rfl rfl rfl rfl rfl (by decide) ?_) (by simp) (by simp) (by simp [AV.low, Entry.lowL]) Sto.low rfl
  repeat' first
    | refine HCode.seq ?_ | refine HCode.region rfl ?_ | refine HCode.region_draw Lay.mix rfl ?_ | refine HCode.block ?_ | refine HCode.scope ?_ | refine HCode.skip ?_ | refine HCode.label ?_ | refine HCode.exit ?_ | refine HCode.ret ?_
    | refine HCode.cond_true rfl ?_ | refine HCode.cond_false rfl ?_ | refine HCode.cond_yes rfl (by assumption) ?_ | refine HCode.cond_no rfl (by assumption) ?_ | (refine HCode.cond rfl ?_ ?_ <;> intro hc)
    | refine A.nil_seq ?_ | refine A.nil (fun _ => rfl) ?_ | refine A.dead rfl ?_ | refine A.yes rfl rfl ?_ | refine A.no rfl rfl ?_ | refine A.yes rfl (by assumption) ?_ | refine A.no rfl (by assumption) ?_ | (refine A.guard rfl ?_ ?_ <;> intro hc)
    | refine A.move rfl ?_ | refine A.assign rfl ?_ | refine A.load_b rfl rfl rfl rfl ?_ | refine A.load_r rfl rfl rfl ?_ | refine A.field_b rfl rfl rfl rfl rfl rfl ?_ | refine A.field_r rfl rfl rfl rfl rfl rfl ?_ | refine A.field rfl rfl rfl rfl rfl ?_
    | refine A.index_r rfl rfl rfl rfl rfl rfl (by assumption) rfl ?_ | refine A.len rfl rfl rfl (by first | rw [List.length_map] | rfl) ?_ | refine A.lens rfl rfl rfl rfl ?_
    | refine A.pick_true rfl rfl rfl ?_ | refine A.pick_false rfl rfl rfl ?_ | refine A.pick_true rfl (by assumption) rfl ?_ | refine A.pick_false rfl (by assumption) rfl ?_
    | refine A.box rfl rfl rfl ?_ | refine A.alloc rfl rfl rfl ?_ | refine A.store rfl rfl rfl rfl rfl ?_ | refine A.build rfl rfl rfl rfl ?_ | refine A.buildSlice rfl rfl rfl rfl rfl rfl rfl ?_
    | refine A.eqi rfl rfl ?_ | refine A.nei rfl rfl ?_ | refine A.lss rfl rfl ?_ | refine A.leq rfl rfl ?_ | refine A.gtr rfl rfl ?_ | refine A.geq rfl rfl ?_ | refine A.eqb rfl rfl rfl rfl ?_ | refine A.neb rfl rfl rfl rfl ?_ | refine A.eqs rfl rfl ?_ | refine A.nes rfl rfl ?_ | refine A.lts rfl rfl ?_ | refine A.gts rfl rfl ?_
    | refine A.not rfl ?_ | refine A.extract rfl rfl ?_ | refine A.add64 rfl rfl rfl (by omega) ?_ | refine A.sub64 rfl rfl rfl (by omega) ?_
    | refine A.peq rfl rfl rfl ?_ | refine A.nilCheck rfl ?_
  change HCode _ _ _ _ _ _ _
  refine HCode.adopt 3 true 7 rfl rfl rfl rfl rfl rfl ?_
  refine HCode.loop (fun n s σ => ∃ k : Nat, n = es.length - k ∧ k ≤ es.length ∧ σ = ⟨[.cells [Tbls.enc l, .slice (es.map Entry.enc) (.own 0 7)]], [.len es.length, .len k]⟩ ∧
    s = [(13, .int .i64 k), (12, .int .i64 es.length), (11, .slice (es.map Entry.enc) (.own 0 7)), (3, .slice ((es.take k).map Entry.enc) (.own 1 7))])
    (s0 := [(13, .int .i64 (0 : Nat)), (12, .int .i64 es.length), (11, .slice (es.map Entry.enc) (.own 0 7)), (3, .slice ((es.take 0).map Entry.enc) (.own 1 7))]) ⟨rfl, rfl, rfl, rfl, trivial⟩ ⟨0, rfl, Nat.zero_le _, rfl, rfl⟩ ?_
  rintro n s σ ⟨k, rfl, hk', rfl, rfl⟩
  have htl : ((es.take k).map Entry.enc).length = k := by simp; omega
  by_cases h1 : k < es.length
  · have d1 : decide ((k : Int) < (es.length : Int)) = true := by simp [h1]
    have x1 := map_get' (f := Entry.enc) h1
    have hb := batchC es[k].b (hk _ (List.getElem_mem h1))
    have hc := cmdC es[k].c (ha _ (List.getElem_mem h1))
    repeat' first
      | refine HCode.seq ?_ | refine HCode.region rfl ?_ | refine HCode.region_draw Lay.mix rfl ?_ | refine HCode.block ?_ | refine HCode.scope ?_ | refine HCode.skip ?_ | refine HCode.label ?_ | refine HCode.exit ?_ | refine HCode.ret ?_
      | refine HCode.cond_true rfl ?_ | refine HCode.cond_false rfl ?_ | refine HCode.cond_yes rfl (by assumption) ?_ | refine HCode.cond_no rfl (by assumption) ?_ | (refine HCode.cond rfl ?_ ?_ <;> intro hc)
      | refine A.nil_seq ?_ | refine A.nil (fun _ => rfl) ?_ | refine A.dead rfl ?_ | refine A.yes rfl rfl ?_ | refine A.no rfl rfl ?_ | refine A.yes rfl (by assumption) ?_ | refine A.no rfl (by assumption) ?_ | (refine A.guard rfl ?_ ?_ <;> intro hc)
      | refine A.move rfl ?_ | refine A.assign rfl ?_ | refine A.load_b rfl rfl rfl rfl ?_ | refine A.load_r rfl rfl rfl ?_ | refine A.field_b rfl rfl rfl rfl rfl rfl ?_ | refine A.field_r rfl rfl rfl rfl rfl rfl ?_ | refine A.field rfl rfl rfl rfl rfl ?_
      | refine A.index_r rfl rfl rfl rfl rfl rfl (by assumption) rfl ?_ | refine A.len rfl rfl rfl (by first | rw [List.length_map] | rfl) ?_ | refine A.lens rfl rfl rfl rfl ?_
      | refine A.pick_true rfl rfl rfl ?_ | refine A.pick_false rfl rfl rfl ?_ | refine A.pick_true rfl (by assumption) rfl ?_ | refine A.pick_false rfl (by assumption) rfl ?_
      | refine A.box rfl rfl rfl ?_ | refine A.alloc rfl rfl rfl ?_ | refine A.store rfl rfl rfl rfl rfl ?_ | refine A.build rfl rfl rfl rfl ?_ | refine A.buildSlice rfl rfl rfl rfl rfl rfl rfl ?_
      | refine A.eqi rfl rfl ?_ | refine A.nei rfl rfl ?_ | refine A.lss rfl rfl ?_ | refine A.leq rfl rfl ?_ | refine A.gtr rfl rfl ?_ | refine A.geq rfl rfl ?_ | refine A.eqb rfl rfl rfl rfl ?_ | refine A.neb rfl rfl rfl rfl ?_ | refine A.eqs rfl rfl ?_ | refine A.nes rfl rfl ?_ | refine A.lts rfl rfl ?_ | refine A.gts rfl rfl ?_
      | refine A.not rfl ?_ | refine A.extract rfl rfl ?_ | refine A.add64 rfl rfl rfl (by omega) ?_ | refine A.sub64 rfl rfl rfl (by omega) ?_
      | refine A.call rfl hb (WeakL.refl _) ?_ | refine A.call rfl hc (WeakL.refl _) ?_ | refine A.append (n := k) rfl rfl rfl rfl rfl rfl rfl rfl htl rfl (by dsimp only [List.length_cons, List.length_nil]; omega) (by dsimp only [List.length_cons, List.length_nil]; omega) rfl ?_
    refine ⟨es.length - (k + 1), by omega, [(13, .int .i64 ((k + 1 : Nat) : Int)), (12, .int .i64 es.length), (11, .slice (es.map Entry.enc) (.own 0 7)), (3, .slice ((es.take (k + 1)).map Entry.enc) (.own 1 7))],
      ⟨rfl, rfl, rfl, ?_, trivial⟩, by simp [-List.map_take, belowS, AV.low, Entry.lowL], by simp [belowB, belowT, Tok.low, Ob.low, AV.low, AV.lowL, Entry.lowL, Tbls.enc, Tbl.lowL], k + 1, rfl, by omega, rfl, rfl⟩
    rw [← take_enc' (f := Entry.enc) h1]
    rfl
  · have d1 : decide ((k : Int) < (es.length : Int)) = false := by simp; omega
    repeat' first
      | refine HCode.seq ?_ | refine HCode.region rfl ?_ | refine HCode.region_draw Lay.mix rfl ?_ | refine HCode.block ?_ | refine HCode.scope ?_ | refine HCode.skip ?_ | refine HCode.label ?_ | refine HCode.exit ?_ | refine HCode.ret ?_
      | refine HCode.cond_true rfl ?_ | refine HCode.cond_false rfl ?_ | refine HCode.cond_yes rfl (by assumption) ?_ | refine HCode.cond_no rfl (by assumption) ?_ | (refine HCode.cond rfl ?_ ?_ <;> intro hc)
      | refine A.nil_seq ?_ | refine A.nil (fun _ => rfl) ?_ | refine A.dead rfl ?_ | refine A.yes rfl rfl ?_ | refine A.no rfl rfl ?_ | refine A.yes rfl (by assumption) ?_ | refine A.no rfl (by assumption) ?_ | (refine A.guard rfl ?_ ?_ <;> intro hc)
      | refine A.move rfl ?_ | refine A.assign rfl ?_ | refine A.load_b rfl rfl rfl rfl ?_ | refine A.load_r rfl rfl rfl ?_ | refine A.field_b rfl rfl rfl rfl rfl rfl ?_ | refine A.field_r rfl rfl rfl rfl rfl rfl ?_ | refine A.field rfl rfl rfl rfl rfl ?_
      | refine A.index_r rfl rfl rfl rfl rfl rfl (by assumption) rfl ?_ | refine A.len rfl rfl rfl (by first | rw [List.length_map] | rfl) ?_ | refine A.lens rfl rfl rfl rfl ?_
      | refine A.pick_true rfl rfl rfl ?_ | refine A.pick_false rfl rfl rfl ?_ | refine A.pick_true rfl (by assumption) rfl ?_ | refine A.pick_false rfl (by assumption) rfl ?_
      | refine A.box rfl rfl rfl ?_ | refine A.alloc rfl rfl rfl ?_ | refine A.store rfl rfl rfl rfl rfl ?_ | refine A.build rfl rfl rfl rfl ?_ | refine A.buildSlice rfl rfl rfl rfl rfl rfl rfl ?_
      | refine A.eqi rfl rfl ?_ | refine A.nei rfl rfl ?_ | refine A.lss rfl rfl ?_ | refine A.leq rfl rfl ?_ | refine A.gtr rfl rfl ?_ | refine A.geq rfl rfl ?_ | refine A.eqb rfl rfl rfl rfl ?_ | refine A.neb rfl rfl rfl rfl ?_ | refine A.eqs rfl rfl ?_ | refine A.nes rfl rfl ?_ | refine A.lts rfl rfl ?_ | refine A.gts rfl rfl ?_
      | refine A.not rfl ?_ | refine A.extract rfl rfl ?_ | refine A.add64 rfl rfl rfl (by omega) ?_ | refine A.sub64 rfl rfl rfl (by omega) ?_
    refine ⟨_, _, rfl, Turn.weak (Weak.no (WeakL.eq ?_)), rfl, by simp⟩
    rw [List.take_of_length_le (by omega)]
end Go.Proofs.Ytajddgpkflbnaaa
